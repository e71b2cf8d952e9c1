/-
  The join, fourth text: a law's row where package-level variables hold what they are laid with.
  Conditions: none; it speaks of every program.
-/
import Derived.Test.YtnoenipdooackaaGreatDoorW3
set_option linter.unusedVariables false
set_option linter.unusedSimpArgs false
namespace Go.Proofs.YtnoenipdooackaaGreatDoorV
open Go Go.ChangeShapes Go.RowKit

/-- A LAW's ROW WHERE PACKAGE VARIABLES ARE KNOWN: what is asked of the call, from its contract. -/
theorem law_rowG {G : Heap} {H : Type} {enc : TypeId × Value → H} {P : Program} {T : List TypeId} {f : FuncId} {fn : Func} {c : Code} {s : ChangeSpec} {apart fresh handsOn again : Bool} {tb : TypeId} {B : Nat} (hT : T.all (okT P T) = true) (hl : laidOutB P = true)
    (hts : fn.params.toList.all (fun t => T.contains t && P.readableRec t && decide (t < P.types.size)) = true)
    (hf : P.funcs[f]? = some fn) (hb : fn.body = some c) (hname : (fn.name == "runtime.NumGoroutine") = false) (hv : s.vars = []) (hres : fn.resultTypes = #[tb]) (htb : P.underlying tb = some .bool)
    (hs : ∀ (ds : List (DataW H)), ds.length = fn.params.toList.length → (s.fn H ds).results = [.lit (.bool true)] ∧ (s.fn H ds).args = ds ∧ (s.fn H ds).vars = [])
    (hB : B ≤ mostLen) (hc : ∀ das, HasDs P fn.params.toList das → bulkL das ≤ B → VC P G f das Heap.nil [] fun o _ _ => o = .ret (.bool true))
    (W : World) (hG : ∀ g cs, G g = some cs → ∀ (o : Nat) d, cs[o]? = some d → (K0 W).cells g o d) (base : Nat) (args : Array Value) (ds gs : List (DataW H)) (before : List MemPlace)
    (hval : ∀ (j : Nat) t v, fn.params[j]? = some t → args[j]? = some v → Value.okWide P W .any base t v)
    (hW : DataW.Whole enc P fn.params.toList s.vars apart W args.toList ds gs before) (hk : ubs (ds ++ gs) ≤ B) :
    Calls P f args W fun e W' => ∃ v, e = .returned v ∧ s.post enc P fn apart fresh handsOn again W args v W' := by
  have hW' := hW
  obtain ⟨p, q, hA, hV, hpq, hz, hn⟩ := hW
  rw [hv] at hV
  obtain ⟨rfl, rfl⟩ := trodVars_none hV
  simp only [List.append_nil] at hk
  simp only [List.all_eq_true, Bool.and_eq_true, List.contains_iff_mem, decide_eq_true_eq] at hts
  obtain ⟨das, e1, e2, e3⟩ := args_rep (T := T) hT (fun t ht => (hts t ht).1.1) hA (fun j t v ht hv => hval j t v (by simpa using ht) (by simpa using hv)) (by omega)
  have hlen : ds.length = fn.params.toList.length := by
    have : ∀ {ts : List TypeId} {vs : List Value} {ds : List (DataW H)} {ps : List MemPlace}, DataW.TrodAll enc P W 0 (fun _ => true) true ts vs ds ps → ds.length = ts.length := fun {ts} => by
      induction ts with
      | nil => intro vs ds ps h; obtain ⟨rfl, rfl, rfl⟩ := trodAll_nil h; rfl
      | cons t ts ih => intro vs ds ps h; obtain ⟨v, vs1, d, ds1, a, b, rfl, rfl, rfl, h1, h2⟩ := trodAll_cons h; simp [ih h2]
    exact this hA
  obtain ⟨s1, s2, s3⟩ := hs ds hlen
  refine (law_calls (G := G) hf hb hname hG (hc das e1 (by omega)) e2).mono fun e W' ⟨he, hb'⟩ => ?_
  exact ⟨_, he, post_law hl (fun t ht => ⟨(hts t ht).1.2, (hts t ht).2⟩) hW' hb' hv hres htb (by simpa using s1) (by simpa using s2) (by simpa using s3)⟩

end Go.Proofs.YtnoenipdooackaaGreatDoorV
