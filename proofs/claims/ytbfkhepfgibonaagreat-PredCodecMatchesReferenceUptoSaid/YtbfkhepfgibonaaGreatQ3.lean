/-
  Predicates (package pred): the fields of a predicate, its size.
  Conditions: the predicate has at most 1048576 parts.
-/
import Derived.Test.YtbfkhepfgibonaaGreatQ2
import Derived.Test.YtbfkhepfgibonaaGreatV30
import Derived.Test.YtbfkhepfgibonaaGreatLY
set_option linter.unusedVariables false
set_option linter.unusedSimpArgs false
namespace Go.Proofs.YtbfkhepfgibonaaGreatS
open Go Go.Proofs.YtbfkhepfgibonaaGreatV

variable {G : Heap}
attribute [local irreducible] VN VC VX VQ VP VY VW

/-! Rows of numbers in a variable's cells. -/
theorem flat_iE : ∀ l : List Int, flat (l.map iE) = l.map iE
  | [] => rfl
  | a :: l => by
    have := flat_iE l
    simp only [flat, List.map_cons, List.flatMap_cons] at this ⊢
    rw [this]; rfl
theorem zeros_iE : ∀ n : Nat, zeros [.int .i64 0] n = (List.replicate n (0 : Int)).map iE
  | 0 => rfl
  | n + 1 => by
    have := zeros_iE n
    simp only [zeros, List.replicate_succ, List.flatten_cons, List.map_cons] at this ⊢
    rw [this]; rfl
theorem isObj_iE (l : List Int) : isObj (l.map iE) = false := encI_ok.obj l
theorem eltI : elt P 34 = some (1, 8) := by kernel_rfl
theorem zelI : zel P 34 = some ([.int .i64 0], 8) := by kernel_rfl
theorem cutI : cutk P 34 = some (1, 1, 0) := by kernel_rfl
theorem iE_solid (l : List Int) : ∀ x ∈ l.map iE, x.cells.length = 1 ∧ x.solid = true := fun x hx => by
  obtain ⟨y, _, rfl⟩ := List.mem_map.1 hx; exact ⟨rfl, rfl⟩
theorem iE_cells (l : List Int) : ∀ x ∈ l.map iE, x.cells.length = 1 := fun x hx => (iE_solid l x hx).1
theorem er_iE (l : List Int) : (l.map iE).map D.er = l.map iE := by
  rw [List.map_map]; rfl
theorem er1_iE (l : List Int) : (l.map iE).map D.er1 = l.map iE := by
  rw [List.map_map]; rfl
theorem srcI {β : Heap} (tk : Tk) (R : List Int) : srcOf P β 1 34 (.sl tk (R.map iE)) = (R.map iE, True) := by
  rw [srcOf_sl]
  simp only [vsrc, cutI, er_iE]
  rw [show (∀ d ∈ R.map iE, d.cells.length = 1 ∧ d.solid = true) = True from eq_true (iE_solid R)]
theorem splice_iE {f g : List Int} {k : Nat} (h : k + g.length ≤ f.length) : splice (f.map iE) k (g.map iE) = (f.take k ++ g ++ f.drop (k + g.length)).map iE := by
  unfold splice
  simp [List.map_take, List.map_drop]
/-- A row of numbers that lies in a variable's cells, a variable that β0 has not. -/
def OutB (β0 β : Heap) (d : D) (xs : List Int) : Prop := (d = .sl .full [] ∧ xs = []) ∨ ∃ (b : Nat) (f : List Int), d = .so b 0 xs.length f.length ∧ β b = some (f.map iE) ∧ f.take xs.length = xs ∧ xs.length ≤ f.length ∧ β0 b = none ∧ 0 < xs.length
theorem OutB.nil (β0 β : Heap) : OutB β0 β (.sl .full []) [] := .inl ⟨rfl, rfl⟩
theorem OutB.mono {β0 β β' : Heap} {d : D} {xs : List Int} (h : OutB β0 β d xs) (hm : Mon β β') : OutB β0 β' d xs := by
  rcases h with h | ⟨b, f, h1, h2, h3⟩
  · exact .inl h
  · exact .inr ⟨b, f, h1, hm b _ h2 (isObj_iE f), h3⟩
theorem OutB.form {β0 β : Heap} {d : D} {xs : List Int} (h : OutB β0 β d xs) : d = .sl .full [] ∨ ∃ b n c, d = .so b 0 n c := by
  rcases h with ⟨h, _⟩ | ⟨b, f, h, _⟩
  · exact .inl h
  · exact .inr ⟨b, _, _, h⟩
theorem OutB.set {β0 β : Heap} {d : D} {xs : List Int} (h : OutB β0 β d xs) {b : Nat} (hb : β0 b ≠ none) (X : List D) : OutB β0 (β.set b X) d xs := by
  rcases h with h | ⟨b', f, h1, h2, h3, h4, h5, h6⟩
  · exact .inl h
  · refine .inr ⟨b', f, h1, ?_, h3, h4, h5, h6⟩
    have : b' ≠ b := fun e => hb (e ▸ h5)
    simp only [Heap.set, if_neg this]; exact h2
theorem OutB.weak {β0 β1 β : Heap} {d : D} {xs : List Int} (h : OutB β0 β d xs) (hb : ∀ b, β0 b = none → β1 b = none) : OutB β1 β d xs := by
  rcases h with h | ⟨b, f, h1, h2, h3, h4, h5, h6⟩
  · exact .inl h
  · exact .inr ⟨b, f, h1, h2, h3, h4, hb b h5, h6⟩
def NotI (c : List D) : Prop := ∀ f : List Int, c ≠ f.map iE
theorem notI_of {c : List D} (k : Nat) (h : ∀ n, c[k]? ≠ some (iE n)) (hk : k < c.length) : NotI c := fun f e => by
  subst e
  rw [List.length_map] at hk
  exact h f[k] (by simp [hk])
theorem bapO {P : Program} {t u : TypeId} {β0 β : Heap} {x y : D} {ok : Prop} {new : Bool} {k : D → Heap → Prop} {xs R : List Int} (hel : elt P t = some (1, 8)) (hz : zel P t = some ([.int .i64 0], 8)) (hok : ok) (hx : OutB β0 β x xs) (hnew : new = true) (hR : 0 < R.length) (hy : srcOf P β 1 u y = (R.map iE, True)) (hn : xs.length + R.length ≤ 8000000)
    (h0 : ∀ b, β b = none → β0 b = none) (hk : ∀ d β', OutB β0 β' d (xs ++ R) → (∀ b' c, β b' = some c → NotI c ∨ β0 b' ≠ none → β' b' = some c) → k d β') : bapK P t u x y ok new β k := by
  rw [bapK_at hel hz]
  refine ⟨hok, by decide, by simp, by rw [hy]; trivial, ?_⟩
  rw [hy]
  rcases hx with ⟨rfl, rfl⟩ | ⟨b, f, rfl, hb, ht, hf, hb0, hpos⟩
  · refine ⟨hnew, by simp, by simp only [List.length_nil, List.length_map] at hn ⊢; omega, fun h => absurd h (by rw [List.length_map]; omega), fun _ cap' hc b' hb' => ?_⟩
    simp only [List.length_nil, List.length_map] at hc ⊢
    refine hk _ _ (.inr ⟨b', R ++ List.replicate (cap' - (0 + R.length)) 0, ?_, ?_, by simp, by simp, h0 b' hb', by simpa using hR⟩) ?_
    · simp; omega
    · simp only [Heap.set, if_true, flat_iE, zeros_iE]
      simp [flat]
    · intro b2 c hc _
      have : b2 ≠ b' := fun e => by rw [e, hb'] at hc; cases hc
      simp only [Heap.set, if_neg this]; exact hc
  · simp only [bapR, hb, List.length_map]
    refine ⟨isObj_iE f, by simp, hf, by omega, fun hr => ?_, fun hr cap' hc b' hb' => ?_⟩
    · refine hk _ _ (.inr ⟨b, f.take xs.length ++ R ++ f.drop (xs.length + R.length), ?_, ?_, ?_, ?_, hb0, by simp; omega⟩) ?_
      · simp; omega
      · simp only [Heap.set, if_true, flat_iE, Nat.zero_add, Nat.mul_one]
        rw [splice_iE (by omega)]
      · rw [ht, List.take_append_of_le_length (by simp), List.take_of_length_le (by simp)]
      · simp; omega
      · intro b2 c hc hn
        have : b2 ≠ b := fun e => by
          rw [e, hb] at hc; cases hc
          rcases hn with hn | hn
          · exact hn _ rfl
          · rw [e] at hn; exact hn hb0
        simp only [Heap.set, if_neg this]; exact hc
    · refine hk _ _ (.inr ⟨b', f.take xs.length ++ R ++ List.replicate (cap' - (xs.length + R.length)) 0, ?_, ?_, ?_, ?_, h0 b' hb', by simp; omega⟩) ?_
      · simp; omega
      · simp only [Heap.set, if_true, flat_iE, List.drop_zero, Nat.mul_one, zeros_iE]
        simp [List.map_take]
      · rw [ht, List.take_append_of_le_length (by simp), List.take_of_length_le (by simp)]
      · simp; omega
      · intro b2 c hc _
        have : b2 ≠ b' := fun e => by rw [e, hb'] at hc; cases hc
        simp only [Heap.set, if_neg this]; exact hc
/-- Such a row is given away. -/
theorem turn_outB {β0 β : Heap} {d : D} {xs : List Int} {Φ : D → Heap → List Nat → Prop} (h : OutB β0 β d xs) (hn : xs.length ≤ 8000000) (hΦ : Φ (.sl .none (xs.map iE)) Heap.nil []) : Turn G d β [] Φ := by
  rcases h with ⟨rfl, rfl⟩ | ⟨b, f, rfl, h2, h3, h4, _⟩
  · exact Turn.weak (finK_drop hΦ)
  · refine Turn.bind (Turn.freeze (m := 1) (xs := xs.map iE) h2 (isObj_iE f) h4 (by rw [List.length_map]; omega) ?_ (iE_cells _) (by simp) (by simp only [mostLen]; omega)) ?_
    · rw [flat_iE, Nat.mul_one, ← List.map_take, h3]
    · rintro d β ω ⟨t, ht, rfl, rfl, rfl⟩
      exact Turn.weak (finK_drop hΦ)
def atomIds (l : List Pr) : List Int := (l.filter fun q => isAt q.op).map Pr.id
def fieldsF (p : Pr) : List Int := Lib.compact (sortI (atomIds (subs p)))
theorem atomIds_le (l : List Pr) : (atomIds l).length ≤ l.length := by simp [atomIds, List.length_filter_le]
theorem fieldsF_le (p : Pr) : (fieldsF p).length ≤ (subs p).length := by
  refine Nat.le_trans (compact_le _) ?_
  rw [sortI_length]; exact atomIds_le _
theorem compact_ne {l : List Int} (hl : 0 < l.length) : (Lib.compact l).length ≠ 0 := by
  unfold Lib.compact Lib.compactUpTo
  rw [List.length_map]
  intro h
  have h1 := List.eq_nil_of_length_eq_zero h
  have h2 : 0 ∈ (List.range l.length).filter (Lib.keeps l.toArray) := by
    rw [List.mem_filter]; exact ⟨List.mem_range.2 hl, by simp [Lib.keeps]⟩
  rw [h1] at h2; cases h2
theorem compactUpTo_sorted {l : List Int} (hs : l.Pairwise (· ≤ ·)) : ∀ m, m ≤ l.length → (Lib.compactUpTo l.toArray m).Pairwise (· < ·) ∧ ∀ x, x ∈ Lib.compactUpTo l.toArray m ↔ x ∈ l.take m
  | 0, _ => by simp [Lib.compactUpTo]
  | m + 1, hm => by
    obtain ⟨h1, h2⟩ := compactUpTo_sorted hs m (by omega)
    have hg : l.toArray[m]! = l[m] := by rw [getElem!_pos _ _ (by simp; omega)]; simp
    have ht : l.take (m + 1) = l.take m ++ [l[m]] := by rw [List.take_add_one, List.getElem?_eq_getElem (by omega)]; rfl
    rw [Lib.compactUpTo_succ, hg, ht]
    have hle : ∀ x ∈ l.take m, ∃ (_ : 0 < m), x ≤ l[m - 1] := fun x hx => by
      obtain ⟨i, hi, rfl⟩ := List.getElem_of_mem hx
      have hi' : i < m := by rw [List.length_take] at hi; omega
      refine ⟨by omega, ?_⟩
      rw [List.getElem_take]
      by_cases e : i = m - 1
      · subst e; exact Int.le_refl _
      · exact List.pairwise_iff_getElem.1 hs i (m - 1) (by omega) (by omega) (by omega)
    cases hk : Lib.keeps l.toArray m with
    | true =>
      rw [if_pos rfl]
      refine ⟨List.pairwise_append.2 ⟨h1, List.pairwise_singleton .., fun x hx y hy => ?_⟩, fun x => by simp only [List.mem_append, h2]⟩
      rw [List.mem_singleton] at hy; subst hy
      obtain ⟨h0, h3⟩ := hle x ((h2 x).1 hx)
      have h4 := List.pairwise_iff_getElem.1 hs (m - 1) m (by omega) (by omega) (by omega)
      have hg1 : l.toArray[m - 1]! = l[m - 1] := by rw [getElem!_pos _ _ (by simp; omega)]; simp
      have h5 : l[m] ≠ l[m - 1] := by
        simp only [Lib.keeps, hg, hg1, decide_eq_true_eq] at hk
        rcases hk with hk | hk
        · omega
        · exact hk
      omega
    | false =>
      rw [if_neg (by decide), List.append_nil]
      refine ⟨h1, fun x => ?_⟩
      simp only [Lib.keeps, decide_eq_false_iff_not, not_or, Decidable.not_not] at hk
      obtain ⟨k0, k1⟩ := hk
      have hg1 : l.toArray[m - 1]! = l[m - 1] := by rw [getElem!_pos _ _ (by simp; omega)]; simp
      rw [hg, hg1] at k1
      rw [h2, List.mem_append, List.mem_singleton]
      refine ⟨.inl, fun h => ?_⟩
      rcases h with h | h
      · exact h
      · rw [h, k1]; exact List.mem_take_iff_getElem.2 ⟨m - 1, by omega, rfl⟩
theorem compact_sorted {l : List Int} (hs : l.Pairwise (· ≤ ·)) : (Lib.compact l).Pairwise (· < ·) ∧ ∀ x, x ∈ Lib.compact l ↔ x ∈ l := by
  have := compactUpTo_sorted hs l.length (Nat.le_refl _)
  rw [List.take_length] at this
  exact this
theorem sortI_sorted (l : List Int) : (sortI l).Pairwise (· ≤ ·) := by
  have := List.pairwise_mergeSort (le := fun x y : Int => decide (x ≤ y)) (fun a b c h1 h2 => by simp at *; omega) (fun a b => by simp; omega) l
  exact this.imp fun h => by simpa using h
theorem mem_sortI (l : List Int) (x : Int) : x ∈ sortI l ↔ x ∈ l := List.mem_mergeSort
/-- The fields of a predicate: in increasing order, those of its atoms. -/
theorem fieldsF_spec (p : Pr) : (fieldsF p).Pairwise (· < ·) ∧ ∀ x, x ∈ fieldsF p ↔ x ∈ atomIds (subs p) := by
  obtain ⟨h1, h2⟩ := compact_sorted (sortI_sorted (atomIds (subs p)))
  exact ⟨h1, fun x => by rw [fieldsF, h2, mem_sortI]⟩
theorem compact_nil : Lib.compact ([] : List Int) = [] := rfl
set_option maxRecDepth 100000 in
set_option maxHeartbeats 1000000 in
theorem Fields_ok (p : Pr) (hn : (subs p).length ≤ 4000000) : VN P G 13 [.agg p.cells] (.sl .none ((fieldsF p).map iE)) := by
  unfold VN
  refine VC.turn (Φ1 := fun o β ω => ∃ d, o = .ret d ∧ ω = [] ∧ OutB Heap.nil β d (fieldsF p)) ?_ ?_ ?_
  rotate_left
  · rintro d β ω ⟨d', h1, h2, h3⟩
    cases h1; subst h2
    exact turn_outB h3 (Nat.le_trans (fieldsF_le p) (by omega)) ⟨rfl, rfl, rfl⟩
  · rintro d β ω ⟨d', h1, _⟩; cases h1
  refine VC.ofsT (fun | 5 => [(0, []), (1, []), (2, []), (3, []), (4, [777777]), (5, [])] | 99999999 => [(0, [0, 1, 2, 3, 4, 6, 10])] | _ => []) [2] mixed Tryz.func13 rfl rfl rfl rfl (by decide +kernel) (by simp) ?_
  simp only [go_sem, reduceIte, Nat.reduceEqDiff, Nat.reduceAdd, Nat.reduceSub, Nat.reduceMul, Nat.reduceLT, Nat.reduceLeDiff, Nat.reducePow, Int.reduceToNat, Int.reduceLT, Int.reduceLE, Int.reduceEq, Int.reduceNe, Int.reduceAdd, Int.reduceSub, Int.reduceMul, Int.reduceNeg]
  intro b1
  refine new_1 fun b3 h1 h2 => ?_
  try simp only [go_sem, reduceIte, Nat.reduceEqDiff, Nat.reduceAdd, Nat.reduceSub, Nat.reduceMul, Nat.reduceLT, Nat.reduceLeDiff, Nat.reducePow, Int.reduceToNat, Int.reduceLT, Int.reduceLE, Int.reduceEq, Int.reduceNe, Int.reduceAdd, Int.reduceSub, Int.reduceMul, Int.reduceNeg, h1, h2]
  generalize hβ : Heap.set _ b3 _ = β0
  have e1 : β0 b1 = some p.cells := by rw [← hβ]; simp [Heap.set, h1, h2]
  have e3 : β0 b3 = some [.sl .full []] := by rw [← hβ]; simp [Heap.set]
  clear hβ
  refine cK_fr (d := .clo (.func 41) [] []) (args := [.agg p.cells]) (all_ok p) (Part.nil _ _) ?_ ?_
  rotate_left
  · rintro r β1 ω1 ⟨b, h, _⟩; cases h
  rintro r β1 ω1 β' ω' ⟨bq, h3, rfl, rfl⟩ hpt hkeep hω
  cases h3
  rw [joinT_nil] at hω
  subst hω
  have e1 := hkeep b1 _ e1 rfl
  have e3 := hkeep b3 _ e3 rfl
  have eq := hpt.box bq p.cells (by simp [Heap.set])
  clear hkeep hpt
  simp only [go_sem, reduceIte, Nat.reduceEqDiff, Nat.reduceAdd, Nat.reduceSub, Nat.reduceMul, Nat.reduceLT, Nat.reduceLeDiff, Nat.reducePow, Int.reduceToNat, Int.reduceLT, Int.reduceLE, Int.reduceEq, Int.reduceNe, Int.reduceAdd, Int.reduceSub, Int.reduceMul, Int.reduceNeg]
  generalize hσ : upd _ 0 _ = σ0
  have q3 : σ0 3 = .pb b3 0 := by rw [← hσ]; rfl
  clear hσ
  refine rg_all (pb := true) (I := fun vis β c ω => ω = [] ∧ ∃ d, c = [d] ∧ OutB β' β d (atomIds vis)) (J := fun _ _ _ _ => False) (bo := b3) (fun | 5 => [(0, []), (1, []), (2, []), (3, []), (4, [777777]), (5, [])] | 99999999 => [(0, [0, 1, 2, 3, 4, 6, 10])] | _ => []) eq e3 ⟨rfl, _, rfl, OutB.nil _ _⟩ (fun _ _ _ _ h => h) (fun vis β β' c ω hm ⟨h1, d, h2, h3⟩ => ⟨h1, d, h2, h3.mono hm⟩) (fun _ _ _ _ _ _ h => h) rfl rfl rfl (by decide +kernel) (by decide +kernel) ?_ ?_ (fun _ _ _ _ _ _ h => h.elim)
  · rintro l r q vis β c ω hl hpre ⟨rfl, d, rfl, hO⟩ hk hbo hlr
    rw [show roundσ σ0 #[7].toList [D.agg q.cells] = upd σ0 7 (.agg q.cells) from rfl]
    try simp only [go_sem, reduceIte, Nat.reduceEqDiff, Nat.reduceAdd, Nat.reduceSub, Nat.reduceMul, Nat.reduceLT, Nat.reduceLeDiff, Nat.reducePow, Int.reduceToNat, Int.reduceLT, Int.reduceLE, Int.reduceEq, Int.reduceNe, Int.reduceAdd, Int.reduceSub, Int.reduceMul, Int.reduceNeg, q3]
    refine new_any fun b4 hb4 => ?_
    have N := And.intro (box_ne hb4 hlr) (And.intro (box_ne hb4 hbo) (box_ne hl e3))
    try simp only [go_sem, reduceIte, Nat.reduceEqDiff, Nat.reduceAdd, Nat.reduceSub, Nat.reduceMul, Nat.reduceLT, Nat.reduceLeDiff, Nat.reducePow, Int.reduceToNat, Int.reduceLT, Int.reduceLE, Int.reduceEq, Int.reduceNe, Int.reduceAdd, Int.reduceSub, Int.reduceMul, Int.reduceNeg, q3, N, hbo, hlr]
    generalize hβ2 : Heap.set _ l _ = β2
    obtain ⟨g1, g2, g3, g4, g5⟩ := rg_head hl hk hbo hlr (by
      rcases hO with ⟨rfl, _⟩ | ⟨b, f, rfl, _⟩ <;> rfl) hb4 _ _ hβ2
    have hO2 : OutB β' β2 d (atomIds vis) := hO.mono (fun b cs e1 e2 => by
      rw [← hβ2]; exact Mon.rec (r := r) (tm := σ0) (by simp [Heap.set, N, hlr]) b cs (Mon.new hb4 b cs e1 e2) e2)
    clear hβ2 hb4 hO
    refine cK_vn (isAtom_ok q.op) ?_
    cases ha : isAt q.op
    · try simp only [go_sem, reduceIte, Nat.reduceEqDiff, Nat.reduceAdd, Nat.reduceSub, Nat.reduceMul, Nat.reduceLT, Nat.reduceLeDiff, Nat.reducePow, Int.reduceToNat, Int.reduceLT, Int.reduceLE, Int.reduceEq, Int.reduceNe, Int.reduceAdd, Int.reduceSub, Int.reduceMul, Int.reduceNeg, q3]
      refine ⟨g1, g3, _, g2, rfl, d, rfl, ?_⟩
      rw [show atomIds (vis ++ [q]) = atomIds vis from by simp [atomIds, ha]]
      exact hO2
    · have hstep : ∀ k : D → Heap → Prop, (∀ d2 β3, OutB β' β3 d2 (atomIds vis ++ [q.id]) → β3 b3 = some [d] → β3 l = some [.lp (LpBusy r) σ0] → (∀ b cs, β' b = some cs → b ≠ b3 → β3 b = some cs) → k d2 β3) → bapK P 34 34 d (.sl .full [.int .i64 q.id]) True true β2 k := by
        intro k hk2
        refine bapO (xs := atomIds vis) (R := [q.id]) (β0 := β') eltI zelI trivial hO2 rfl (by simp) (srcI _ [q.id]) ?_ ?_ ?_
        · have h1 := hpre.length_le
          have h2 := atomIds_le vis
          simp only [List.length_append, List.length_cons, List.length_nil] at h1 ⊢; omega
        · intro b hb
          cases e : β' b with
          | none => rfl
          | some x =>
            by_cases h : b = b3
            · rw [h, g2] at hb; cases hb
            · rw [g1 b x e h] at hb; cases hb
        · intro d2 β3 hO3 hkp
          exact hk2 d2 β3 hO3 (hkp b3 _ g2 (.inr (by rw [e3]; simp))) (hkp l _ g3 (.inl (notI_of 0 (fun n h => by cases h) (by simp)))) (fun b cs h1 h2 => hkp b cs (g1 b cs h1 h2) (.inr (by rw [h1]; simp)))
      have hids : atomIds (vis ++ [q]) = atomIds vis ++ [q.id] := by simp [atomIds, ha]
      rcases hO2.form with rfl | ⟨b, n, c, rfl⟩
      all_goals
        try simp only [go_sem, reduceIte, Nat.reduceEqDiff, Nat.reduceAdd, Nat.reduceSub, Nat.reduceMul, Nat.reduceLT, Nat.reduceLeDiff, Nat.reducePow, Int.reduceToNat, Int.reduceLT, Int.reduceLE, Int.reduceEq, Int.reduceNe, Int.reduceAdd, Int.reduceSub, Int.reduceMul, Int.reduceNeg, q3, N, g2, g4]
        refine hstep _ fun d2 β3 hO3 k2 k3 k1 => ?_
        rcases hO3.form with rfl | ⟨b', n', c', rfl⟩
        all_goals
          try simp only [go_sem, reduceIte, Nat.reduceEqDiff, Nat.reduceAdd, Nat.reduceSub, Nat.reduceMul, Nat.reduceLT, Nat.reduceLeDiff, Nat.reducePow, Int.reduceToNat, Int.reduceLT, Int.reduceLE, Int.reduceEq, Int.reduceNe, Int.reduceAdd, Int.reduceSub, Int.reduceMul, Int.reduceNeg, q3, N, k2]
          refine rgQ_end (fun b cs e1 e2 => ?_) ?_ (hit_set rfl) ⟨rfl, _, rfl, ?_⟩
          · simp only [Heap.set, if_neg e2]; exact k1 b cs e1 e2
          · simp only [Heap.set, if_neg (Ne.symm N.2.2.1)]; exact k3
          · rw [hids]
            exact hO3.set (by rw [e3]; simp) _
  · rintro β c ω hk hbo ⟨rfl, d, rfl, hO⟩
    have hlen := atomIds_le (subs p)
    rcases hO with ⟨rfl, h0⟩ | ⟨b, f, rfl, hb, ht, hf, hb0, hpos⟩
    · try simp only [go_sem, reduceIte, Nat.reduceEqDiff, Nat.reduceAdd, Nat.reduceSub, Nat.reduceMul, Nat.reduceLT, Nat.reduceLeDiff, Nat.reducePow, Int.reduceToNat, Int.reduceLT, Int.reduceLE, Int.reduceEq, Int.reduceNe, Int.reduceAdd, Int.reduceSub, Int.reduceMul, Int.reduceNeg, q3, hbo]
      refine cK_vn (sort0_vn Tryz.layLaysn189 .full) ?_
      try simp only [go_sem, reduceIte, Nat.reduceEqDiff, Nat.reduceAdd, Nat.reduceSub, Nat.reduceMul, Nat.reduceLT, Nat.reduceLeDiff, Nat.reducePow, Int.reduceToNat, Int.reduceLT, Int.reduceLE, Int.reduceEq, Int.reduceNe, Int.reduceAdd, Int.reduceSub, Int.reduceMul, Int.reduceNeg, q3, hbo]
      refine cK_vn (compact0_vn Tryz.layLays2n20) ?_
      try simp only [go_sem, reduceIte, Nat.reduceEqDiff, Nat.reduceAdd, Nat.reduceSub, Nat.reduceMul, Nat.reduceLT, Nat.reduceLeDiff, Nat.reducePow, Int.reduceToNat, Int.reduceLT, Int.reduceLE, Int.reduceEq, Int.reduceNe, Int.reduceAdd, Int.reduceSub, Int.reduceMul, Int.reduceNeg, q3, hbo]
      exact finK_exact ⟨_, rfl, rfl, .inl ⟨rfl, by rw [fieldsF, h0]; simp [sortI, compact_nil]⟩⟩
    · have nb : b ≠ b3 ∧ b3 ≠ b := by
        have : b ≠ b3 := fun e => by rw [e, e3] at hb0; cases hb0
        exact ⟨this, this.symm⟩
      try simp only [go_sem, reduceIte, Nat.reduceEqDiff, Nat.reduceAdd, Nat.reduceSub, Nat.reduceMul, Nat.reduceLT, Nat.reduceLeDiff, Nat.reducePow, Int.reduceToNat, Int.reduceLT, Int.reduceLE, Int.reduceEq, Int.reduceNe, Int.reduceAdd, Int.reduceSub, Int.reduceMul, Int.reduceNeg, q3, hbo]
      refine cK_vw (sort_vw Tryz.layLaysn189 b (atomIds (subs p)).length f hf (by omega)) hb ?_
      try simp only [go_sem, reduceIte, Nat.reduceEqDiff, Nat.reduceAdd, Nat.reduceSub, Nat.reduceMul, Nat.reduceLT, Nat.reduceLeDiff, Nat.reducePow, Int.reduceToNat, Int.reduceLT, Int.reduceLE, Int.reduceEq, Int.reduceNe, Int.reduceAdd, Int.reduceSub, Int.reduceMul, Int.reduceNeg, q3, hbo, nb]
      rw [ht]
      have hs : (sortI (atomIds (subs p))).length = (atomIds (subs p)).length := sortI_length _
      have hcl := compact_vw (G := G) Tryz.layLays2n20 b (atomIds (subs p)).length (sortI (atomIds (subs p)) ++ f.drop (atomIds (subs p)).length) (by rw [List.length_append, hs]; omega) (by omega)
      rw [show (sortI (atomIds (subs p)) ++ f.drop (atomIds (subs p)).length).length = f.length from by rw [List.length_append, hs, List.length_drop]; omega, List.take_append_of_le_length (by omega), List.take_of_length_le (by omega)] at hcl
      refine cK_vw hcl (by simp [Heap.set]) ?_
      try simp only [go_sem, reduceIte, Nat.reduceEqDiff, Nat.reduceAdd, Nat.reduceSub, Nat.reduceMul, Nat.reduceLT, Nat.reduceLeDiff, Nat.reducePow, Int.reduceToNat, Int.reduceLT, Int.reduceLE, Int.reduceEq, Int.reduceNe, Int.reduceAdd, Int.reduceSub, Int.reduceMul, Int.reduceNeg, q3, hbo, nb]
      have hc1 : (fieldsF p).length ≤ (atomIds (subs p)).length := by
        have := compact_le (sortI (atomIds (subs p)))
        rw [hs] at this; exact this
      refine finK_exact ⟨_, rfl, rfl, .inr ⟨b, Lib.compact (sortI (atomIds (subs p))) ++ List.replicate ((atomIds (subs p)).length - (Lib.compact (sortI (atomIds (subs p)))).length) 0 ++ List.drop (atomIds (subs p)).length (sortI (atomIds (subs p)) ++ List.drop (atomIds (subs p)).length f), ?_, by simp [Heap.set], ?_, ?_, rfl, ?_⟩⟩
      · simp only [List.length_append, List.length_replicate, List.length_drop, hs]
        rw [show (Lib.compact (sortI (atomIds (subs p)))).length = (fieldsF p).length from rfl]
        congr 1; omega
      · rw [List.append_assoc, List.take_append_of_le_length (by exact Nat.le_refl _), List.take_of_length_le (by exact Nat.le_refl _)]; rfl
      · simp only [List.length_append]; exact Nat.le_trans (Nat.le_add_right _ _) (Nat.le_add_right _ _)
      · refine Nat.pos_of_ne_zero fun h => ?_
        exact compact_ne (by rw [hs]; exact hpos) h
set_option maxRecDepth 100000 in
set_option maxHeartbeats 1000000 in
theorem Size_ok (p : Pr) (hn : (subs p).length ≤ 4000000) : VN P G 15 [.agg p.cells] (.int .i64 (subs p).length) := by
  unfold VN
  refine VC.ofs (fun | 99999999 => [(0, [0, 1, 2, 3, 5])] | _ => []) [2] mixed Tryz.func15 rfl rfl rfl rfl (by decide +kernel) (by simp) ?_
  simp only [go_sem, reduceIte, Nat.reduceEqDiff, Nat.reduceAdd, Nat.reduceSub, Nat.reduceMul, Nat.reduceLT, Nat.reduceLeDiff, Nat.reducePow, Int.reduceToNat, Int.reduceLT, Int.reduceLE, Int.reduceEq, Int.reduceNe, Int.reduceAdd, Int.reduceSub, Int.reduceMul, Int.reduceNeg]
  intro b1
  refine new_1 fun b3 h1 h2 => ?_
  try simp only [go_sem, reduceIte, Nat.reduceEqDiff, Nat.reduceAdd, Nat.reduceSub, Nat.reduceMul, Nat.reduceLT, Nat.reduceLeDiff, Nat.reducePow, Int.reduceToNat, Int.reduceLT, Int.reduceLE, Int.reduceEq, Int.reduceNe, Int.reduceAdd, Int.reduceSub, Int.reduceMul, Int.reduceNeg, h1, h2]
  generalize hβ : Heap.set _ b3 _ = β0
  have e1 : β0 b1 = some p.cells := by rw [← hβ]; simp [Heap.set, h1, h2]
  have e3 : β0 b3 = some [.int .i64 0] := by rw [← hβ]; simp [Heap.set]
  clear hβ
  refine cK_fr (d := .clo (.func 41) [] []) (args := [.agg p.cells]) (all_ok p) (Part.nil _ _) ?_ ?_
  rotate_left
  · rintro r β1 ω1 ⟨b, h, _⟩; cases h
  rintro r β1 ω1 β' ω' ⟨bq, h3, rfl, rfl⟩ hpt hkeep hω
  cases h3
  rw [joinT_nil] at hω
  subst hω
  have e3 := hkeep b3 _ e3 rfl
  have eq := hpt.box bq p.cells (by simp [Heap.set])
  clear hkeep hpt
  simp only [go_sem, reduceIte, Nat.reduceEqDiff, Nat.reduceAdd, Nat.reduceSub, Nat.reduceMul, Nat.reduceLT, Nat.reduceLeDiff, Nat.reducePow, Int.reduceToNat, Int.reduceLT, Int.reduceLE, Int.reduceEq, Int.reduceNe, Int.reduceAdd, Int.reduceSub, Int.reduceMul, Int.reduceNeg]
  generalize hσ : upd _ 0 _ = σ0
  have q3 : σ0 3 = .pb b3 0 := by rw [← hσ]; rfl
  clear hσ
  refine rg_all (pb := false) (I := fun vis β c ω => ω = [] ∧ c = [.int .i64 vis.length]) (J := fun _ _ _ _ => False) (bo := b3) (fun | 99999999 => [(0, [0, 1, 2, 3, 5])] | _ => []) eq e3 ⟨rfl, rfl⟩ (fun _ _ _ _ h => h) (fun vis β β' c ω hm h => h) (fun _ _ _ _ _ _ h => h) rfl rfl rfl (by decide +kernel) (by decide +kernel) ?_ ?_ (fun _ _ _ _ _ _ h => h.elim)
  · rintro l r q vis β c ω hl hpre ⟨rfl, rfl⟩ hk hbo hlr
    rw [show roundσ σ0 #[6].toList [D.agg q.cells] = upd σ0 6 (.agg q.cells) from rfl]
    have h1 := hpre.length_le
    simp only [List.length_append, List.length_cons, List.length_nil] at h1
    have w := wrap_i64 (x := (vis.length : Int) + 1) (by omega) (by omega)
    have N := box_ne hl e3
    try simp only [go_sem, reduceIte, Nat.reduceEqDiff, Nat.reduceAdd, Nat.reduceSub, Nat.reduceMul, Nat.reduceLT, Nat.reduceLeDiff, Nat.reducePow, Int.reduceToNat, Int.reduceLT, Int.reduceLE, Int.reduceEq, Int.reduceNe, Int.reduceAdd, Int.reduceSub, Int.reduceMul, Int.reduceNeg, q3, hbo, hlr, N, w]
    refine rgQ_end (fun b cs e1 e2 => ?_) ?_ (hit_set rfl) ⟨rfl, by simp⟩
    · have e4 := box_ne hl e1
      simp only [Heap.set, if_neg e2, if_neg e4.1]; exact hk b cs e1 e2
    · simp [Heap.set, N]
  · rintro β c ω hk hbo ⟨rfl, rfl⟩
    try simp only [go_sem, reduceIte, Nat.reduceEqDiff, Nat.reduceAdd, Nat.reduceSub, Nat.reduceMul, Nat.reduceLT, Nat.reduceLeDiff, Nat.reducePow, Int.reduceToNat, Int.reduceLT, Int.reduceLE, Int.reduceEq, Int.reduceNe, Int.reduceAdd, Int.reduceSub, Int.reduceMul, Int.reduceNeg, q3, hbo]
    exact finK_drop ⟨rfl, rfl, rfl⟩
end Go.Proofs.YtbfkhepfgibonaaGreatS
