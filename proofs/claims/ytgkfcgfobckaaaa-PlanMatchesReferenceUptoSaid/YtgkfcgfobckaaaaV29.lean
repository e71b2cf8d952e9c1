/-
  The twenty-ninth text of the program logic: rounds of a range over a function in the evaluator's form; calls of yield.
  Conditions: none; it speaks of every program.
-/
import Derived.Test.YtgkfcgfobckaaaaV28
set_option linter.unusedVariables false
set_option linter.unusedSimpArgs false
namespace Go.Proofs.YtgkfcgfobckaaaaV
open Go

section
variable {P : Program} {G : Heap} {β : Heap} {ω : List Nat} {f : FuncId} {args : List D} {k q : D → Heap → List Nat → Prop} {d : D} {l : Nat} {U : List Nat} {i : Nat} {rd : Rd} {β0 : Heap} {ω0 : List Nat} {Φ Φ0 : Out → Heap → List Nat → Prop}
variable {ops : Array Oper} {rest : List Oper} {es : List Ent} {Q : VE → St → Prop} {dst : Option Tmp} {σ : Sg}

def LpBusy (r : Loop) : Loop := { r with state := .busy }
def LpDone (r : Loop) (c : Code) : Loop := { r with state := .done, pending := some c }

/-- What is asked at a round's end, the record as it was. -/
def rdQ (l : Nat) (r : Loop) (tm : Nat → D) (Φ : Out → Heap → List Nat → Prop) : VE → St → Prop
  | .normal, s => s.β l = some [.lp (LpBusy r) tm] ∧ Φ (.ret (.bool true)) (s.β.set l [.lp r tm]) s.ω
  | .ret, s => s.β l = some [.lp (LpBusy r) tm] ∧ Φ (.ret (.bool false)) (s.β.set l [.lp (LpDone r .ret) tm]) s.ω
  | .exit i, s => s.β l = some [.lp (LpBusy r) tm] ∧ Φ (.ret (.bool false)) (s.β.set l [.lp (LpDone r (.exit i)) tm]) s.ω
  | .goto t, s => s.β l = some [.lp (LpBusy r) tm] ∧ Φ (.ret (.bool false)) (s.β.set l [.lp (LpDone r (.goto t)) tm]) s.ω
  | .panic _, _ => False
theorem rdQ_normal (l : Nat) (r : Loop) (tm : Nat → D) : rdQ l r tm Φ .normal ⟨σ, β, ω⟩ = (β l = some [.lp (LpBusy r) tm] ∧ Φ (.ret (.bool true)) (β.set l [.lp r tm]) ω) := rfl
theorem rdQ_ret (l : Nat) (r : Loop) (tm : Nat → D) : rdQ l r tm Φ .ret ⟨σ, β, ω⟩ = (β l = some [.lp (LpBusy r) tm] ∧ Φ (.ret (.bool false)) (β.set l [.lp (LpDone r .ret) tm]) ω) := rfl
theorem rdQ_exit (l : Nat) (r : Loop) (tm : Nat → D) (i : Nat) : rdQ l r tm Φ (.exit i) ⟨σ, β, ω⟩ = (β l = some [.lp (LpBusy r) tm] ∧ Φ (.ret (.bool false)) (β.set l [.lp (LpDone r (.exit i)) tm]) ω) := rfl

/-- A ROUND, in the evaluator's form. -/
theorem VY.roundq {pb : Bool} (ct : Cert) (hm : P.follows .mixedOrders = true) {ps : Array Tmp} {x y : Code} {r : Loop} {tm : Nat → D} (hb : β l = some [.lp r tm]) (hn : LpNew ps x y r) (hlen : args.length = ps.size) (hnx : noRange x = true) (hny : noRange y = true) (hox : okCode ct x = true) (hoy : okCode ct y = true)
    (h : vwq pb ct P G x (VE.then (fun s1 => s1.β l = some [.lp r tm] ∧ vwq pb ct P G y (rdQ l r tm Φ) ⟨s1.σ, s1.β.set l [.lp (LpBusy r) tm], s1.ω⟩) (fun _ _ => False)) ⟨roundσ tm ps.toList args, β, ω⟩) : VY P G l args β ω Φ := by
  obtain ⟨n1, n2, n3, n4, n5, n6, n7, n8⟩ := hn
  subst n3 n4 n5
  have hr : ({ r with state := .ready, pending := none } : Loop) = r := by rw [← n1, ← n2]
  have hlp : ∀ {r1 r2 : Loop} {t1 t2 : Nat → D} {β : Heap}, β l = some [.lp r1 t1] → β l = some [.lp r2 t2] → r1 = r2 ∧ t1 = t2 := fun h1 h2 => by
    rw [h1] at h2
    injection h2 with h2
    injection h2 with h2 _
    injection h2 with e1 e2
    exact ⟨e1, e2⟩
  refine VY.round vdraw_sound hb hlen n6 n7 n8 hnx hny ?_
  refine vwq_vwp hm r.assign (then_mono (fun s1 hs => ?_) (fun _ _ h => h)) hox h
  obtain ⟨h1, h2⟩ := hs
  refine ⟨r, tm, h1, n1, ?_⟩
  refine vwq_vwp hm r.body (fun e s hs => ?_) hoy h2
  cases e with
  | normal =>
    obtain ⟨q1, q2⟩ := hs
    exact ⟨_, _, q1, by rw [show ({ LpBusy r with state := .ready, pending := none } : Loop) = r from hr]; exact q2⟩
  | ret => exact ⟨_, _, hs.1, hs.2⟩
  | exit i => exact ⟨_, _, hs.1, hs.2⟩
  | goto t => exact ⟨_, _, hs.1, hs.2⟩
  | panic d => exact hs.elim

/-- A call of yield, by a part of the memory. -/
theorem callK_vy (h : VY P G l args β0 ω0 Φ0) (hp : Part β0 ω0 β ω) (hk : ∀ d β' ω', Framed β ω β0 ω0 Φ0 (.ret d) β' ω' → k d β' ω') (hq : ∀ d β' ω', Framed β ω β0 ω0 Φ0 (.pan d) β' ω' → q d β' ω') :
    callK P G (.clo (.yield l) [] []) args β ω k q := by
  have : VY P G l ([] ++ args) β ω (fun o β' ω' => match o with | .ret d => k d β' ω' | .pan d => q d β' ω') := by
    simp only [List.nil_append]
    refine (h.frame hp).mono fun o β' ω' hf => ?_
    cases o with
    | ret d => exact hk d β' ω' hf
    | pan d => exact hq d β' ω' hf
  exact this
end
section
variable {P : Program} {G : Heap} {β : Heap} {ω : List Nat}
theorem VC.nilcmpsT {f : FuncId} {fn : Func} {c0 x y z : Code} {i t3 t4 : Nat} {t e t' : TypeId} {ty1 ty2 : TypeId} {p1 p2 : String} {af1 af2 : Array Edge} {args : List D} {Φ : Out → Heap → List Nat → Prop} (ct : Cert) (ts : List Tmp) (hm : P.follows .mixedOrders = true) (hf : P.funcs[f]? = some fn)
    (hb : fn.body = some (.seq c0 (.seq (.seq (.region i #[⟨some t3, .move (.tmp 0), ty1, p1, af1, none⟩, ⟨some t4, .binOp .eql t (.tmp t3) (.const (.slice none 0 0)) t', ty2, p2, af2, none⟩] false) (.cond (.tmp t4) x y)) z)))
    (hname : (fn.name == "runtime.NumGoroutine") = false) (hres : fn.results = (ts.map ResultVar.tmp).toArray) (hlen : args.length ≤ fn.ntmps) (hfit : fits fn.ntmps c0 = true ∧ fits fn.ntmps (.cond (.tmp t4) x y) = true ∧ fits fn.ntmps z = true ∧ t3 < fn.ntmps ∧ t4 < fn.ntmps)
    (hok : okCode ct c0 = true ∧ okCode ct (.cond (.tmp t4) x y) = true ∧ okCode ct z = true) (ht : P.underlying t = some (.slice e))
    (h : vwq true ct P G c0 (VE.then (fun s => ∃ tk xs, s.σ 0 = .sl tk xs ∧ ∀ b, (b = true → xs = []) → vwq true ct P G (.cond (.tmp t4) x y) (VE.then (vwq true ct P G z (fins Φ ts)) (fins Φ ts)) ⟨upd (upd s.σ t3 (.sl tk xs)) t4 (.bool b), s.β, s.ω⟩) (fins Φ ts)) ⟨start args, β, ω⟩) : VC P G f args β ω Φ := by
  have e0 : fin P fn Φ = fins Φ ts := by
    funext e s
    have hr : (fn.results.toList.map fun r => (resv P s r).1) = ts.map s.σ := by
      rw [hres]
      simp only [List.map_map]
      rfl
    have ht : (∀ r ∈ fn.results.toList, (resv P s r).2) = True := by
      rw [hres]
      simp [resv]
    cases e <;> simp only [fin, fins, finK, hr, ht, true_and]
  obtain ⟨k1, k2, k3, k4, k5⟩ := hfit
  obtain ⟨l1, l2, l3⟩ := hok
  refine VC.nilcmp hm hf hb hname hlen k1 k2 k3 ⟨k4, k5⟩ ht ?_
  rw [e0]
  refine vwq_vwp hm c0 (then_mono (fun s hs => ?_) (fun _ _ h => h)) l1 h
  obtain ⟨tk, xs, q, hall⟩ := hs
  exact ⟨tk, xs, q, fun b hb => vwq_vwp hm _ (then_mono (fun s hs => vwq_vwp hm z (fun _ _ h => h) l3 hs) (fun _ _ h => h)) l2 (hall b hb)⟩
end
end Go.Proofs.YtgkfcgfobckaaaaV
