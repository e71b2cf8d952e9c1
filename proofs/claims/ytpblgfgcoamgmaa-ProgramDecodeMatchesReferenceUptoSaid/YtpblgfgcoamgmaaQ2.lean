/-
  Predicates (package pred): the walk through all parts of a predicate.
  Conditions: none.
-/
import Derived.Test.YtpblgfgcoamgmaaQ1
set_option linter.unusedVariables false
set_option linter.unusedSimpArgs false
namespace Go.Proofs.YtpblgfgcoamgmaaS
open Go Go.Proofs.YtpblgfgcoamgmaaV

variable {G : Heap}
attribute [local irreducible] VN VC VX VQ VP VY

mutual
/-- A predicate and all predicates inside it, in the order of the walk. -/
def subs : Pr → List Pr
  | .mk op id lo hi set text kids => .mk op id lo hi set text kids :: subsL kids
def subsL : List Pr → List Pr
  | [] => []
  | p :: l => subs p ++ subsL l
end
theorem subs_eq (p : Pr) : subs p = p :: subsL p.kids := by cases p; simp only [subs]; rfl
theorem subsL_nil : subsL [] = [] := by simp only [subsL]
theorem subsL_cons (p : Pr) (l : List Pr) : subsL (p :: l) = subs p ++ subsL l := by simp only [subsL]
theorem subsL_flat : ∀ l : List Pr, subsL l = l.flatMap subs
  | [] => by rw [subsL_nil]; rfl
  | p :: l => by rw [subsL_cons, subsL_flat l]; rfl
/-- What the walk hands each part to. -/
abbrev WkΦ (I : List Pr → Heap → List Nat → Prop) (J : Heap → List Nat → Prop) (vis : List Pr) (o : Out) (β : Heap) (ω : List Nat) : Prop :=
  (o = .ret (.bool true) ∧ I vis β ω) ∨ (o = .ret (.bool false) ∧ J β ω)
set_option maxHeartbeats 1000000 in
theorem walk_vc {l : Nat} {I : List Pr → Heap → List Nat → Prop} {J : Heap → List Nat → Prop} {tot : List Pr}
    (hy : ∀ q vis β ω, vis ++ [q] <+: tot → I vis β ω → VY P G l [.agg q.cells] β ω (WkΦ I J (vis ++ [q]))) :
    ∀ (n : Nat) (p : Pr), SizeOf.sizeOf p ≤ n → ∀ (vis : List Pr) (β : Heap) (ω : List Nat), vis ++ subs p <+: tot → I vis β ω → VC P G 77 [.agg p.cells, .clo (.yield l) [] []] β ω (WkΦ I J (vis ++ subs p))
  | 0, p, h, _, _, _, _, _ => by cases p; simp at h
  | n + 1, p, hn, vis, β, ω, hp, hI => by
    have hp0 : vis ++ [p] <+: tot := (by rw [subs_eq]; exact ⟨subsL p.kids, by simp⟩ : vis ++ [p] <+: vis ++ subs p).trans hp
    refine VC.small2 fun hsm => ?_
    have z1 := hsm (.agg p.cells) (List.mem_cons_self ..) (.sl .none (p.kids.map Pr.d)) (by simp [D.cells, Pr.cells])
    simp only [Small, mostLen, List.length_map] at z1
    clear hsm
    refine VC.ofs (fun | 99999999 => [(0, [0, 1, 2, 4, 6, 10, 12, 13, 14, 15, 21])] | _ => []) [4] mixed Try.func77 rfl rfl rfl rfl (by decide +kernel) (by simp) ?_
    have el : (p.kids.map Pr.d).length = p.kids.length := by simp
    simp only [go_sem, reduceIte, Nat.reduceEqDiff, Nat.reduceAdd, Nat.reduceSub, Nat.reduceMul, Nat.reduceLT, Nat.reduceLeDiff, Nat.reducePow, Int.reduceToNat, Int.reduceLT, Int.reduceLE, Int.reduceEq, Int.reduceNe, Int.reduceAdd, Int.reduceSub, Int.reduceMul, Int.reduceNeg]
    refine new_any fun b2 hb2 => ?_
    refine cK_fr (d := .clo (.yield l) [] []) (args := [.agg p.cells]) (hy p vis β ω hp0 hI) (part_new (part_refl β ω) hb2) ?_ ?_
    rotate_left
    · rintro r β1 ω1 (⟨h, _⟩ | ⟨h, _⟩) <;> cases h
    rintro r β1 ω1 β' ω' (⟨h, h1⟩ | ⟨h, h1⟩) hpt hkeep hω
    all_goals cases h
    · have e2 := hkeep b2 p.cells (by simp [Heap.set]) hb2
      try simp only [go_sem, reduceIte, Nat.reduceEqDiff, Nat.reduceAdd, Nat.reduceSub, Nat.reduceMul, Nat.reduceLT, Nat.reduceLeDiff, Nat.reducePow, Int.reduceToNat, Int.reduceLT, Int.reduceLE, Int.reduceEq, Int.reduceNe, Int.reduceAdd, Int.reduceSub, Int.reduceMul, Int.reduceNeg, e2, el]
      refine vwq_loop (fun v => ∃ (j : Nat) (β1 : Heap) (ω1 : List Nat), j ≤ p.kids.length ∧ I (vis ++ p :: subsL (p.kids.take j)) β1 ω1 ∧ Part β1 ω1 v.β v.ω ∧ v.σ 1 = .clo (.yield l) [] [] ∧ v.σ 12 = .sl .none (p.kids.map Pr.d) ∧ v.σ 13 = .int .i64 p.kids.length ∧ v.σ 14 = .int .i64 j) (fun v => p.kids.length - (ival (v.σ 14)).toNat) ⟨0, β1, ω1, by omega, by simpa [subsL_nil] using h1, hpt, rfl, rfl, rfl, rfl⟩ ?_
      clear h1 hpt hkeep hω e2 β1 ω1 hI hb2 b2
      rintro σ β ω ⟨j, β1, ω1, hj, hI, hpt, q1, q12, q13, q14⟩
      dsimp only at q1 q12 q13 q14 hpt
      try simp only [go_sem, reduceIte, Nat.reduceEqDiff, Nat.reduceAdd, Nat.reduceSub, Nat.reduceMul, Nat.reduceLT, Nat.reduceLeDiff, Nat.reducePow, Int.reduceToNat, Int.reduceLT, Int.reduceLE, Int.reduceEq, Int.reduceNe, Int.reduceAdd, Int.reduceSub, Int.reduceMul, Int.reduceNeg, q1, q12, q13, q14]
      refine cd_dec (fun g => ?_) (fun g => ?_)
      · have g' := eq_true g
        obtain ⟨k, hx, ex⟩ : ∃ k, p.kids[j]? = some k ∧ (p.kids.map Pr.d).getD j .any = .agg k.cells := by
          obtain ⟨k, h1, h2⟩ := at_map (f := Pr.d) (l := p.kids) (j := j) (by omega)
          exact ⟨k, h1, h2.trans k.d_eq⟩
        have hm := List.mem_of_getElem? hx
        have c1 : ((0 : Int) ≤ j) = True := eq_true (by omega)
        have wj := wrap_i64 (x := (j : Int) + 1) (by omega) (by omega)
        have ih := walk_vc hy n k (Nat.le_of_lt_succ (Nat.lt_of_lt_of_le (Pr.kid_lt (p := p) hm) hn)) (vis ++ p :: subsL (p.kids.take j)) β1 ω1
        have hnext : vis ++ p :: subsL (p.kids.take (j + 1)) = (vis ++ p :: subsL (p.kids.take j)) ++ subs k := by
          rw [List.take_add_one, hx, subsL_flat, subsL_flat, List.flatMap_append]; simp
        have hpre : vis ++ p :: subsL (p.kids.take (j + 1)) <+: vis ++ subs p := by
          rw [subs_eq, subsL_flat, subsL_flat]
          refine ⟨(p.kids.drop (j + 1)).flatMap subs, ?_⟩
          rw [List.append_assoc, List.cons_append, ← List.flatMap_append, List.take_append_drop]
        have ih := ih (by rw [← hnext]; exact hpre.trans hp) hI
        try simp only [go_sem, reduceIte, Nat.reduceEqDiff, Nat.reduceAdd, Nat.reduceSub, Nat.reduceMul, Nat.reduceLT, Nat.reduceLeDiff, Nat.reducePow, Int.reduceToNat, Int.reduceLT, Int.reduceLE, Int.reduceEq, Int.reduceNe, Int.reduceAdd, Int.reduceSub, Int.reduceMul, Int.reduceNeg, q1, q12, q13, q14, c1, g', ex, el]
        refine new_any fun b6 hb6 => ?_
        try simp only [go_sem, reduceIte, Nat.reduceEqDiff, Nat.reduceAdd, Nat.reduceSub, Nat.reduceMul, Nat.reduceLT, Nat.reduceLeDiff, Nat.reducePow, Int.reduceToNat, Int.reduceLT, Int.reduceLE, Int.reduceEq, Int.reduceNe, Int.reduceAdd, Int.reduceSub, Int.reduceMul, Int.reduceNeg, q1, q12, q13, q14]
        refine cK_fr (d := .clo (.func 77) [] []) (args := [.agg k.cells, .clo (.yield l) [] []]) ih (part_new hpt hb6) ?_ ?_
        rotate_left
        · rintro r β1 ω1 (⟨h, _⟩ | ⟨h, _⟩) <;> cases h
        rintro r β2 ω2 β' ω' (⟨h, h1⟩ | ⟨h, h1⟩) hpt2 _ _
        all_goals cases h
        · try simp only [go_sem, reduceIte, Nat.reduceEqDiff, Nat.reduceAdd, Nat.reduceSub, Nat.reduceMul, Nat.reduceLT, Nat.reduceLeDiff, Nat.reducePow, Int.reduceToNat, Int.reduceLT, Int.reduceLE, Int.reduceEq, Int.reduceNe, Int.reduceAdd, Int.reduceSub, Int.reduceMul, Int.reduceNeg, q1, q12, q13, q14, wj]
          exact ⟨⟨j + 1, β2, ω2, by omega, by rw [hnext]; exact h1, hpt2, rfl⟩, by omega⟩
        · try simp only [go_sem, reduceIte, Nat.reduceEqDiff, Nat.reduceAdd, Nat.reduceSub, Nat.reduceMul, Nat.reduceLT, Nat.reduceLeDiff, Nat.reducePow, Int.reduceToNat, Int.reduceLT, Int.reduceLE, Int.reduceEq, Int.reduceNe, Int.reduceAdd, Int.reduceSub, Int.reduceMul, Int.reduceNeg, q1, q12, q13, q14]
          exact finK_part hpt2 (.inr ⟨rfl, h1⟩)
      · try simp only [go_sem, reduceIte, Nat.reduceEqDiff, Nat.reduceAdd, Nat.reduceSub, Nat.reduceMul, Nat.reduceLT, Nat.reduceLeDiff, Nat.reducePow, Int.reduceToNat, Int.reduceLT, Int.reduceLE, Int.reduceEq, Int.reduceNe, Int.reduceAdd, Int.reduceSub, Int.reduceMul, Int.reduceNeg, q1, q12, q13, q14]
        rw [List.take_of_length_le (by omega)] at hI
        exact finK_part hpt (.inl ⟨rfl, by rw [subs_eq]; exact hI⟩)
    · try simp only [go_sem, reduceIte, Nat.reduceEqDiff, Nat.reduceAdd, Nat.reduceSub, Nat.reduceMul, Nat.reduceLT, Nat.reduceLeDiff, Nat.reducePow, Int.reduceToNat, Int.reduceLT, Int.reduceLE, Int.reduceEq, Int.reduceNe, Int.reduceAdd, Int.reduceSub, Int.reduceMul, Int.reduceNeg, ]
      exact finK_part hpt (.inr ⟨rfl, h1⟩)
theorem all_ok (p : Pr) : VC P G 54 [.agg p.cells] Heap.nil [] fun o β ω => ∃ b, o = .ret (.clo (.func 76) [] [.pb b 0]) ∧ β = Heap.nil.set b p.cells ∧ ω = [] := by
  refine VC.ofs (fun | 99999999 => [(0, [0, 1, 2])] | _ => []) [2] mixed Try.func54 rfl rfl rfl rfl (by decide +kernel) (by simp) ?_
  simp only [go_sem, reduceIte, Nat.reduceEqDiff, Nat.reduceAdd, Nat.reduceSub, Nat.reduceMul, Nat.reduceLT, Nat.reduceLeDiff, Nat.reducePow, Int.reduceToNat, Int.reduceLT, Int.reduceLE, Int.reduceEq, Int.reduceNe, Int.reduceAdd, Int.reduceSub, Int.reduceMul, Int.reduceNeg]
  exact fun b => finK_exact ⟨b, rfl, rfl, rfl⟩
theorem all1_vc {l bq : Nat} {I : List Pr → Heap → List Nat → Prop} {J : Heap → List Nat → Prop} {p : Pr} {vis : List Pr}
    (hy : ∀ q vis' β ω, vis' ++ [q] <+: vis ++ subs p → I vis' β ω → VY P G l [.agg q.cells] β ω (WkΦ I J (vis' ++ [q]))) {β : Heap} {ω : List Nat} (hq : β bq = some p.cells) (hI : I vis β ω) :
    VC P G 76 ([] ++ [.clo (.yield l) [] []] ++ [.pb bq 0]) β ω fun o β' ω' => o = .ret (.tup []) ∧ (I (vis ++ subs p) β' ω' ∨ J β' ω') := by
  refine VC.ofs (fun | 99999999 => [(0, [0, 1])] | _ => []) [] mixed Try.func76 rfl rfl rfl rfl (by decide +kernel) (by simp) ?_
  simp only [go_sem, reduceIte, Nat.reduceEqDiff, Nat.reduceAdd, Nat.reduceSub, Nat.reduceMul, Nat.reduceLT, Nat.reduceLeDiff, Nat.reducePow, Int.reduceToNat, Int.reduceLT, Int.reduceLE, Int.reduceEq, Int.reduceNe, Int.reduceAdd, Int.reduceSub, Int.reduceMul, Int.reduceNeg, hq]
  refine cK_fr (d := .clo (.func 77) [] []) (args := [.agg p.cells, .clo (.yield l) [] []]) (walk_vc hy _ p (Nat.le_refl _) vis β ω (List.prefix_refl _) hI) (part_refl β ω) ?_ ?_
  · rintro r β1 ω1 β' ω' (⟨h, h1⟩ | ⟨h, h1⟩) hpt _ _
    all_goals cases h
    all_goals simp only [go_sem, reduceIte, Nat.reduceEqDiff, Nat.reduceAdd, Nat.reduceSub, Nat.reduceMul, Nat.reduceLT, Nat.reduceLeDiff, Nat.reducePow, Int.reduceToNat, Int.reduceLT, Int.reduceLE, Int.reduceEq, Int.reduceNe, Int.reduceAdd, Int.reduceSub, Int.reduceMul, Int.reduceNeg]
    · exact finK_part hpt ⟨rfl, .inl h1⟩
    · exact finK_part hpt ⟨rfl, .inr h1⟩
  · rintro r β1 ω1 (⟨h, _⟩ | ⟨h, _⟩) <;> cases h
/-- The boxes of the one are in the other, but for records of loops. -/
def Mon (β β' : Heap) : Prop := ∀ b cs, β b = some cs → isObj cs = false → β' b = some cs
theorem Mon.new {β : Heap} {l : Nat} {X : List D} (h : β l = none) : Mon β (β.set l X) := fun b cs e _ => by
  have : b ≠ l := fun h' => by rw [h', h] at e; cases e
  simp only [Heap.set, if_neg this]; exact e
theorem Mon.rec {β : Heap} {l : Nat} {X : List D} {r : Loop} {tm : Nat → D} (h : β l = some [.lp r tm]) : Mon β (β.set l X) := fun b cs e ho => by
  have : b ≠ l := fun h' => by rw [h', h] at e; cases e; cases ho
  simp only [Heap.set, if_neg this]; exact e
theorem Mon.drop {β : Heap} {l : Nat} {r : Loop} {tm : Nat → D} (h : β l = some [.lp r tm]) : Mon β (β.drop l) := fun b cs e ho => by
  have : b ≠ l := fun h' => by rw [h', h] at e; cases e; cases ho
  simp only [Heap.drop, if_neg this]; exact e
/-- What is asked at a round's end: the boxes of the beginning are as they were, but for one. -/
def rgQ (β0 : Heap) (bo l : Nat) (r : Loop) (σ : Nat → D) (I : Heap → List D → List Nat → Prop) (J : VE → Heap → List D → List Nat → Prop) (e : VE) (s : St) : Prop :=
  (∀ b cs, β0 b = some cs → b ≠ bo → s.β b = some cs) ∧ s.β l = some [.lp (LpBusy r) σ] ∧ ∃ c, s.β bo = some c ∧ match e with
    | .normal => I s.β c s.ω
    | e => J e s.β c s.ω
theorem rgQ_end {β0 : Heap} {bo l : Nat} {r : Loop} {σ : Nat → D} {I : Heap → List D → List Nat → Prop} {J : VE → Heap → List D → List Nat → Prop} {s : St} {c : List D} (h1 : ∀ b cs, β0 b = some cs → b ≠ bo → s.β b = some cs) (h2 : s.β l = some [.lp (LpBusy r) σ]) (h3 : s.β bo = some c) (h4 : I s.β c s.ω) : rgQ β0 bo l r σ I J .normal s := ⟨h1, h2, c, h3, h4⟩
theorem rgQ_out {β0 : Heap} {bo l : Nat} {r : Loop} {σ : Nat → D} {I : Heap → List D → List Nat → Prop} {J : VE → Heap → List D → List Nat → Prop} {s : St} {c : List D} (h1 : ∀ b cs, β0 b = some cs → b ≠ bo → s.β b = some cs) (h2 : s.β l = some [.lp (LpBusy r) σ]) (h3 : s.β bo = some c) (h4 : J .ret s.β c s.ω) : rgQ β0 bo l r σ I J .ret s := ⟨h1, h2, c, h3, h4⟩
set_option maxHeartbeats 1000000 in
/-- A RANGE OVER ALL PARTS OF A PREDICATE. -/
theorem rg_all {pb : Bool} (ct : Cert) {p : Pr} {bq bo : Nat} {β0 : Heap} {ω0 : List Nat} {ps : Array Tmp} {x y : Code} {Q : VE → St → Prop} {σ : Nat → D} {c0 : List D} (hq : β0 bq = some p.cells) (ho : β0 bo = some c0)
    {I : List Pr → Heap → List D → List Nat → Prop} {J : VE → Heap → List D → List Nat → Prop} (h0 : I [] β0 c0 ω0) (hJ : ∀ d β c ω, ¬ J (.panic d) β c ω) (hIm : ∀ vis β β' c ω, Mon β β' → I vis β c ω → I vis β' c ω) (hJm : ∀ e β β' c ω, Mon β β' → J e β c ω → J e β' c ω)
    (hps : ps.size = 1) (hnx : noRange x = true) (hny : noRange y = true) (hox : okCode ct x = true) (hoy : okCode ct y = true)
    (hround : ∀ (l : Nat) (r : Loop) (q : Pr) (vis : List Pr) (β : Heap) (c : List D) (ω : List Nat), β0 l = none → vis ++ [q] <+: subs p → I vis β c ω → (∀ b cs, β0 b = some cs → b ≠ bo → β b = some cs) → β bo = some c → β l = some [.lp r σ] →
      vwq pb ct P G x (VE.then (fun s1 => s1.β l = some [.lp r σ] ∧ vwq pb ct P G y (rgQ β0 bo l r σ (I (vis ++ [q])) J) ⟨s1.σ, s1.β.set l [.lp (LpBusy r) σ], s1.ω⟩) (fun _ _ => False)) ⟨roundσ σ ps.toList [.agg q.cells], β, ω⟩)
    (hend : ∀ β c ω, (∀ b cs, β0 b = some cs → b ≠ bo → β b = some cs) → β bo = some c → I (subs p) β c ω → Q .normal ⟨σ, β, ω⟩)
    (hout : ∀ e β c ω, (∀ b cs, β0 b = some cs → b ≠ bo → β b = some cs) → β bo = some c → J e β c ω → Q e ⟨σ, β, ω⟩) :
    rgK P G (.clo (.func 76) [] [.pb bq 0]) True ps x y Q σ β0 ω0 := by
  refine ⟨trivial, ⟨_, Try.func76, rfl, rfl⟩, fun l r hl hn => ?_⟩
  have hlb : ∀ b cs, β0 b = some cs → b ≠ l := fun b cs h e => by rw [e, hl] at h; cases h
  have hlo := hlb bo c0 ho
  refine (all1_vc (l := l) (bq := bq) (p := p) (vis := [])
    (I := fun vis β ω => β l = some [.lp r σ] ∧ (∀ b cs, β0 b = some cs → b ≠ bo → β b = some cs) ∧ ∃ c, β bo = some c ∧ I vis β c ω)
    (J := fun β ω => ∃ (r' : Loop) (e : VE), β l = some [.lp r' σ] ∧ r'.state ≠ .busy ∧ (∀ (Q : VE → St → Prop) s, Q e s → rangeOut r'.pending Q s) ∧ (∀ b cs, β0 b = some cs → b ≠ bo → β b = some cs) ∧ ∃ c, β bo = some c ∧ J e β c ω)
    ?_ (by simp [Heap.set, hlb bq _ hq, hq]) ⟨by simp [Heap.set], fun b cs h _ => by simp [Heap.set, hlb b cs h, h], c0, by simp [Heap.set, hlo, ho], hIm _ _ _ _ _ (Mon.new hl) h0⟩).mono ?_
  · rintro q vis β ω hq ⟨hl1, hk, c, hc, hI⟩
    have h := hround l r q vis β c ω hl (by simpa using hq) hI hk hc hl1
    have hset : ∀ (β : Heap) X, (∀ b cs, β0 b = some cs → b ≠ bo → β b = some cs) → (∀ b cs, β0 b = some cs → b ≠ bo → (β.set l X) b = some cs) := fun β X h b cs h1 h2 => by
      simp only [Heap.set, if_neg (hlb b cs h1)]; exact h b cs h1 h2
    have hfin : ∀ e s, rgQ β0 bo l r σ (I (vis ++ [q])) J e s → rdQ l r σ (WkΦ (fun vis β ω => β l = some [.lp r σ] ∧ (∀ b cs, β0 b = some cs → b ≠ bo → β b = some cs) ∧ ∃ c, β bo = some c ∧ I vis β c ω)
        (fun β ω => ∃ (r' : Loop) (e : VE), β l = some [.lp r' σ] ∧ r'.state ≠ .busy ∧ (∀ (Q : VE → St → Prop) s, Q e s → rangeOut r'.pending Q s) ∧ (∀ b cs, β0 b = some cs → b ≠ bo → β b = some cs) ∧ ∃ c, β bo = some c ∧ J e β c ω) (vis ++ [q])) e s := by
      rintro e s ⟨g1, g2, c', g3, g4⟩
      have hm : ∀ X, Mon s.β (s.β.set l X) := fun X => Mon.rec g2
      cases e with
      | normal => exact ⟨g2, .inl ⟨rfl, by simp [Heap.set], hset _ _ g1, c', by simp only [Heap.set, if_neg hlo]; exact g3, hIm _ _ _ _ _ (hm _) g4⟩⟩
      | ret => exact ⟨g2, .inr ⟨rfl, LpDone r .ret, .ret, by simp [Heap.set], by simp [LpDone], fun Q s h => h, hset _ _ g1, c', by simp only [Heap.set, if_neg hlo]; exact g3, hJm _ _ _ _ _ (hm _) g4⟩⟩
      | exit i => exact ⟨g2, .inr ⟨rfl, LpDone r (.exit i), .exit i, by simp [Heap.set], by simp [LpDone], fun Q s h => h, hset _ _ g1, c', by simp only [Heap.set, if_neg hlo]; exact g3, hJm _ _ _ _ _ (hm _) g4⟩⟩
      | goto i => exact ⟨g2, .inr ⟨rfl, LpDone r (.goto i), .goto i, by simp [Heap.set], by simp [LpDone], fun Q s h => h, hset _ _ g1, c', by simp only [Heap.set, if_neg hlo]; exact g3, hJm _ _ _ _ _ (hm _) g4⟩⟩
      | panic d => exact (hJ _ _ _ _ g4).elim
    exact VY.roundw ct mixed hl1 hn (by simp [hps]) hnx hny hox hoy hfin h
  · rintro o β' ω' ⟨rfl, ⟨g1, g2, c, g3, g4⟩ | ⟨r', e, g1, g2, g3, g4, c, g5, g6⟩⟩
    · refine ⟨r, σ, g1, by rw [hn.state]; exact fun h => (by cases h), ?_⟩
      rw [hn.pending]
      refine hend _ c _ (fun b cs h1 h2 => ?_) ?_ (hIm _ _ _ _ _ (Mon.drop g1) g4)
      · simp only [Heap.drop, if_neg (hlb b cs h1)]; exact g2 b cs h1 h2
      · simp only [Heap.drop, if_neg hlo]; exact g3
    · refine ⟨r', σ, g1, g2, g3 _ _ (hout e _ c _ (fun b cs h1 h2 => ?_) ?_ (hJm _ _ _ _ _ (Mon.drop g1) g6))⟩
      · simp only [Heap.drop, if_neg (hlb b cs h1)]; exact g4 b cs h1 h2
      · simp only [Heap.drop, if_neg hlo]; exact g5
/-- The first part of a round: the part that is handed over is put into a new box. -/
theorem rg_head {β0 β : Heap} {bo l : Nat} {r : Loop} {σ : Nat → D} {c : List D} (hl : β0 l = none) (hk : ∀ b cs, β0 b = some cs → b ≠ bo → β b = some cs) (hbo : β bo = some c) (hlr : β l = some [.lp r σ]) (hob : isObj c = false) {b : Nat} (hb : β b = none) (X : List D) (β' : Heap) (h : (β.set b X).set l [.lp (LpBusy r) σ] = β') :
    (∀ b cs, β0 b = some cs → b ≠ bo → β' b = some cs) ∧ β' bo = some c ∧ β' l = some [.lp (LpBusy r) σ] ∧ β' b = some X ∧ β0 b = none := by
  have hbl : b ≠ l := fun e => by rw [e, hlr] at hb; cases hb
  have hbb : b ≠ bo := fun e => by rw [e, hbo] at hb; cases hb
  have hlo : bo ≠ l := fun e => by rw [e, hlr] at hbo; cases hbo; cases hob
  subst h
  refine ⟨fun b' cs h1 h2 => ?_, ?_, by simp [Heap.set], by simp [Heap.set, hbl], ?_⟩
  · have e1 : b' ≠ l := fun e => by rw [e, hl] at h1; cases h1
    have e2 : b' ≠ b := fun e => by have := hk b' cs h1 h2; rw [e, hb] at this; cases this
    simp only [Heap.set, if_neg e1, if_neg e2]; exact hk b' cs h1 h2
  · simp only [Heap.set, if_neg hlo, if_neg (Ne.symm hbb)]; exact hbo
  · cases e : β0 b with
    | none => rfl
    | some x => have := hk b x e hbb; rw [hb] at this; cases this
end Go.Proofs.YtpblgfgcoamgmaaS
