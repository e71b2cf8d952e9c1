/-
  The join, third text: what the data of a type are, type by type; a law's row from its contract.
  Conditions: none; it speaks of every program.
-/
import Derived.Test.YtgkfcgfobckaaaaW2
set_option linter.unusedVariables false
set_option linter.unusedSimpArgs false
namespace Go.Proofs.YtgkfcgfobckaaaaV
open Go Go.ChangeShapes Go.RowKit

section
variable {P : Program} {n : Nat} {t e : TypeId} {ys : List D}

theorem HasC.bool (hu : P.underlying t = some .bool) (h : HasC P n t ys) : ∃ b, ys = [.bool b] := by
  cases n with
  | zero => exact h.elim
  | succ n => simpa only [HasC, hu] using h
theorem HasC.str (hu : P.underlying t = some .string) (h : HasC P n t ys) : ∃ s : ByteArray, ys = [.str s] := by
  cases n with
  | zero => exact h.elim
  | succ n =>
    simp only [HasC, hu] at h
    obtain ⟨s, h, _⟩ := h
    exact ⟨s, h⟩
theorem HasC.i64 (hu : P.underlying t = some (.int .i64)) (h : HasC P n t ys) : ∃ i : Int, ys = [.int .i64 i] ∧ -9223372036854775808 ≤ i ∧ i < 9223372036854775808 := by
  cases n with
  | zero => exact h.elim
  | succ n =>
    simp only [HasC, hu] at h
    obtain ⟨i, h, hw⟩ := h
    have hx : -9223372036854775808 ≤ i ∧ i ≤ 9223372036854775807 := by simpa [Lit.wf, IntKind.min, IntKind.max, IntKind.signed, IntKind.bits] using hw
    exact ⟨i, h, by omega⟩
theorem HasC.u64 (hu : P.underlying t = some (.int .u64)) (h : HasC P n t ys) : ∃ i : Nat, ys = [.int .u64 i] ∧ i < 18446744073709551616 := by
  cases n with
  | zero => exact h.elim
  | succ n =>
    simp only [HasC, hu] at h
    obtain ⟨i, h, hw⟩ := h
    have hx : 0 ≤ i ∧ i ≤ 18446744073709551615 := by simpa [Lit.wf, IntKind.min, IntKind.max, IntKind.signed, IntKind.bits] using hw
    exact ⟨i.toNat, by rw [h, Int.toNat_of_nonneg hx.1], by omega⟩
theorem HasC.u8 (hu : P.underlying t = some (.int .u8)) (h : HasC P n t ys) : ∃ i : Nat, ys = [.int .u8 i] ∧ i < 256 := by
  cases n with
  | zero => exact h.elim
  | succ n =>
    simp only [HasC, hu] at h
    obtain ⟨i, h, hw⟩ := h
    have hx : 0 ≤ i ∧ i ≤ 255 := by simpa [Lit.wf, IntKind.min, IntKind.max, IntKind.signed, IntKind.bits] using hw
    exact ⟨i.toNat, by rw [h, Int.toNat_of_nonneg hx.1], by omega⟩

theorem list_of {α β : Type} {f : α → β} {Q : α → Prop} : ∀ (xs : List β), (∀ x ∈ xs, ∃ a, x = f a ∧ Q a) → ∃ as : List α, xs = as.map f ∧ ∀ a ∈ as, Q a
  | [], _ => ⟨[], rfl, fun a h => by simp at h⟩
  | x :: xs, h => by
    obtain ⟨a, h1, h2⟩ := h x (by simp)
    obtain ⟨as, h3, h4⟩ := list_of xs fun y hy => h y (by simp [hy])
    exact ⟨a :: as, by rw [h1, h3]; rfl, fun b hb => by
      rcases List.mem_cons.1 hb with rfl | hb
      · exact h2
      · exact h4 b hb⟩

theorem HasC.slice {α : Type} {f : α → List D} {Q : α → Prop} (hu : P.underlying t = some (.slice e)) (h : HasC P n t ys) (hx : ∀ m x, m + 1 = n → HasC P m e x → ∃ a, x = f a ∧ Q a) :
    ∃ as : List α, ys = [.sl .none (as.map fun a => pk P e (f a))] ∧ ∀ a ∈ as, Q a := by
  cases n with
  | zero => exact h.elim
  | succ n =>
    simp only [HasC, hu] at h
    obtain ⟨xs, rfl, _, h2⟩ := h
    obtain ⟨as, rfl, h4⟩ := list_of xs fun x h => hx n x rfl (h2 x h)
    exact ⟨as, by rw [List.map_map]; rfl, h4⟩

/-- The fields of a struct, one behind the other. -/
def HasFs (P : Program) (n : Nat) : List TypeId → List D → Prop
  | [], ys => ys = []
  | t :: ts, ys => ∃ z r, HasC P n t z ∧ HasFs P n ts r ∧ ys = z ++ r

theorem hasFs_of : ∀ (ts : List TypeId) (zs : List (List D)), zs.length = ts.length → (∀ (i : Nat) t z, ts[i]? = some t → zs[i]? = some z → HasC P n t z) → HasFs P n ts zs.flatten
  | [], [], _, _ => rfl
  | t :: ts, z :: zs, hl, h => ⟨z, zs.flatten, h 0 t z rfl rfl, hasFs_of ts zs (by simpa using hl) (fun i t z ht hz => h (i + 1) t z (by simpa using ht) (by simpa using hz)), by simp⟩
  | [], _ :: _, hl, _ => by simp at hl
  | _ :: _, [], hl, _ => by simp at hl

theorem HasC.struct {fs : Array Field} (hu : P.underlying t = some (.struct fs)) (h : HasC P n t ys) : ∃ m, n = m + 1 ∧ HasFs P m (fs.toList.map (·.type)) ys := by
  cases n with
  | zero => exact h.elim
  | succ n =>
    simp only [HasC, hu] at h
    obtain ⟨zs, h1, h2, rfl⟩ := h
    refine ⟨n, rfl, hasFs_of _ zs (by simpa using h1) fun i t z ht hz => ?_⟩
    rw [List.getElem?_map] at ht
    obtain ⟨f, hf, rfl⟩ := Option.map_eq_some_iff.1 ht
    exact h2 i f z (by simpa using hf) hz

theorem HasC.array {m : Nat} (hu : P.underlying t = some (.array m e)) (h : HasC P n t ys) : ∃ k, n = k + 1 ∧ HasFs P k (List.replicate m e) ys := by
  cases n with
  | zero => exact h.elim
  | succ n =>
    simp only [HasC, hu] at h
    obtain ⟨zs, h1, h2, rfl⟩ := h
    refine ⟨n, rfl, hasFs_of _ zs (by simpa using h1) fun i t z ht hz => ?_⟩
    have : t = e := List.eq_of_mem_replicate (List.mem_of_getElem? ht)
    exact this ▸ h2 z (List.mem_of_getElem? hz)

theorem pk_agg {fs : Array Field} (hu : P.underlying t = some (.struct fs)) (ys : List D) : pk P t ys = .agg ys := by simp only [pk, hu]
theorem pk_arr {m : Nat} (hu : P.underlying t = some (.array m e)) (ys : List D) : pk P t ys = .agg ys := by simp only [pk, hu]
theorem pk_int {k : IntKind} (hu : P.underlying t = some (.int k)) (y : D) : pk P t [y] = y := by simp only [pk, hu, List.headD_cons]
theorem pk_bool (hu : P.underlying t = some .bool) (y : D) : pk P t [y] = y := by simp only [pk, hu, List.headD_cons]
theorem pk_str (hu : P.underlying t = some .string) (y : D) : pk P t [y] = y := by simp only [pk, hu, List.headD_cons]
theorem pk_slice (hu : P.underlying t = some (.slice e)) (y : D) : pk P t [y] = y := by simp only [pk, hu, List.headD_cons]

theorem hasDs_nil {ds : List D} (h : HasDs P [] ds) : ds = [] := by cases h; rfl
theorem hasDs_cons {ts : List TypeId} {ds : List D} (h : HasDs P (t :: ts) ds) : ∃ d r, HasD P t d ∧ HasDs P ts r ∧ ds = d :: r := by cases h with | cons h r => exact ⟨_, _, h, r, rfl⟩

theorem bulk_mem : ∀ {l : List D} {d : D}, d ∈ l → d.bulk ≤ bulkL l
  | x :: l, d, h => by
    simp only [bulkL]
    rcases List.mem_cons.1 h with rfl | h
    · omega
    · have := bulk_mem h; omega
end

/-- A LAW's ROW: what is asked of the call, from its contract. -/
theorem law_row {H : Type} {enc : TypeId × Value → H} {P : Program} {T : List TypeId} {f : FuncId} {fn : Func} {c : Code} {s : ChangeSpec} {apart fresh handsOn again : Bool} {tb : TypeId} {B : Nat} (hT : T.all (okT P T) = true) (hl : laidOutB P = true)
    (hts : fn.params.toList.all (fun t => T.contains t && P.readableRec t && decide (t < P.types.size)) = true)
    (hf : P.funcs[f]? = some fn) (hb : fn.body = some c) (hname : (fn.name == "runtime.NumGoroutine") = false) (hv : s.vars = []) (hres : fn.resultTypes = #[tb]) (htb : P.underlying tb = some .bool)
    (hs : ∀ (ds : List (DataW H)), ds.length = fn.params.toList.length → (s.fn H ds).results = [.lit (.bool true)] ∧ (s.fn H ds).args = ds ∧ (s.fn H ds).vars = [])
    (hB : B ≤ mostLen) (hc : ∀ das, HasDs P fn.params.toList das → bulkL das ≤ B → VC P Heap.nil f das Heap.nil [] fun o _ _ => o = .ret (.bool true))
    (W : World) (base : Nat) (args : Array Value) (ds gs : List (DataW H)) (before : List MemPlace)
    (hval : ∀ (j : Nat) t v, fn.params[j]? = some t → args[j]? = some v → Value.okWide P W .any base t v)
    (hW : DataW.Whole enc P fn.params.toList s.vars apart W args.toList ds gs before) (hk : ubs (ds ++ gs) ≤ B) :
    Calls P f args W fun e W' => ∃ v, e = .returned v ∧ s.post enc P fn apart fresh handsOn again W args v W' := by
  have hW' := hW
  obtain ⟨p, q, hA, hV, hpq, hz, hn⟩ := hW
  rw [hv] at hV
  obtain ⟨rfl, rfl⟩ := trodVars_none hV
  simp only [List.append_nil] at hk
  simp only [List.all_eq_true, Bool.and_eq_true, List.contains_iff_mem, decide_eq_true_eq] at hts
  obtain ⟨das, e1, e2, e3⟩ := args_rep (T := T) hT (fun t ht => (hts t ht).1.1) hA (fun j t v ht hv => hval j t v (by simpa using ht) (by simpa using hv)) (by omega)
  have hlen : ds.length = fn.params.toList.length := by
    have : ∀ {ts : List TypeId} {vs : List Value} {ds : List (DataW H)} {ps : List MemPlace}, DataW.TrodAll enc P W 0 (fun _ => true) true ts vs ds ps → ds.length = ts.length := fun {ts} => by
      induction ts with
      | nil => intro vs ds ps h; obtain ⟨rfl, rfl, rfl⟩ := trodAll_nil h; rfl
      | cons t ts ih => intro vs ds ps h; obtain ⟨v, vs1, d, ds1, a, b, rfl, rfl, rfl, h1, h2⟩ := trodAll_cons h; simp [ih h2]
    exact this hA
  obtain ⟨s1, s2, s3⟩ := hs ds hlen
  refine (law_calls (G := Heap.nil) hf hb hname (fun g cs h => (nomatch h : False).elim) (hc das e1 (by omega)) e2).mono fun e W' ⟨he, hb'⟩ => ?_
  exact ⟨_, he, post_law hl (fun t ht => ⟨(hts t ht).1.2, (hts t ht).2⟩) hW' hb' hv hres htb (by simpa using s1) (by simpa using s2) (by simpa using s3)⟩

end Go.Proofs.YtgkfcgfobckaaaaV
