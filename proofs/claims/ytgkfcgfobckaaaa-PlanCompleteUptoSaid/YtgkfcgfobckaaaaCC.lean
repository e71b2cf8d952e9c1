
import Derived.Test.YtgkfcgfobckaaaaCB
set_option linter.unusedVariables false
set_option linter.unusedSimpArgs false
namespace Go.Proofs.YtgkfcgfobckaaaaS
open Go Go.Proofs.YtgkfcgfobckaaaaV

variable {G : Heap}

mutual
def possT (u : Sm) : Pr → Tr
  | .mk op id lo hi set text kids =>
    if op = 0 then ⟨true, false, false⟩
    else if op = 1 ∨ op = 2 ∨ op = 3 ∨ op = 4 then atomT u (.mk op id lo hi set text kids)
    else if op = 5 then bothT (possTs u kids)
    else if op = 6 then (bothT ((possTs u kids).map Tr.turn)).turn
    else if op = 7 ∧ kids.length = 1 then (((possTs u kids).map Tr.turn)[0]?).getD ⟨false, false, true⟩
    else ⟨false, false, true⟩
def possTs (u : Sm) : List Pr → List Tr
  | [] => []
  | p :: l => possT u p :: possTs u l
end
theorem possTs_eq (u : Sm) : ∀ l : List Pr, possTs u l = l.map (possT u)
  | [] => by simp only [possTs, List.map_nil]
  | p :: l => by simp only [possTs, possTs_eq u l, List.map_cons]
theorem possT_eq (u : Sm) (p : Pr) : possT u p = if p.op = 0 then ⟨true, false, false⟩
    else if p.op = 1 ∨ p.op = 2 ∨ p.op = 3 ∨ p.op = 4 then atomT u p
    else if p.op = 5 then bothT (p.kids.map (possT u))
    else if p.op = 6 then (bothT ((p.kids.map (possT u)).map Tr.turn)).turn
    else if p.op = 7 ∧ p.kids.length = 1 then (((p.kids.map (possT u)).map Tr.turn)[0]?).getD ⟨false, false, true⟩
    else ⟨false, false, true⟩ := by
  cases p; simp only [possT, possTs_eq]; rfl
theorem codeD_one (l : List Tr) : ∀ x ∈ l.map codeD, x.cells.length = 1 := fun x hx => by
  obtain ⟨t, _, rfl⟩ := List.mem_map.1 hx; rfl
/-- No list of operands is very long. -/
inductive Pr.Lim : Pr → Prop where
  | mk (p : Pr) : p.kids.length ≤ 1048576 → (∀ k ∈ p.kids, Pr.Lim k) → Pr.Lim p
set_option maxHeartbeats 2000000 in
theorem possible_step (u : Sm) (p : Pr) (z3 : p.kids.length ≤ 1048576) (ih : ∀ k ∈ p.kids, VN P G 45 [.agg u.cells, .agg k.cells] (.int .i64 (possT u k).code)) : VN P G 45 [.agg u.cells, .agg p.cells] (.int .i64 (possT u p).code) := by
  have hat := atom_ok (G := G) u p
  simp only [Sm.cells, Pr.cells] at hat ⊢
  refine VC.ofs (fun | 99999999 => [(0, [0, 1, 2, 3, 4, 5, 6, 8, 9, 11, 12, 14, 23, 24, 25, 26, 42, 48, 55])] | _ => []) [4] mixed Try.func45 rfl rfl rfl rfl (by decide +kernel) (by simp) ?_
  simp only [go_sem, reduceIte, Nat.reduceEqDiff, Nat.reduceAdd, Nat.reduceSub, Nat.reduceMul, Nat.reduceLT, Nat.reduceLeDiff, Nat.reducePow, Int.reduceToNat, Int.reduceLT, Int.reduceLE, Int.reduceEq, Int.reduceNe, Int.reduceAdd, Int.reduceSub, Int.reduceMul, Int.reduceNeg]
  intro b0
  refine new_1 fun b1 h1 h2 => ?_
  refine cd_dec (fun k0 => ?_) (fun k0 => ?_)
  · simp only [go_sem, reduceIte, Nat.reduceEqDiff, Nat.reduceAdd, Nat.reduceSub, Nat.reduceMul, Nat.reduceLT, Nat.reduceLeDiff, Nat.reducePow, Int.reduceToNat, Int.reduceLT, Int.reduceLE, Int.reduceEq, Int.reduceNe, Int.reduceAdd, Int.reduceSub, Int.reduceMul, Int.reduceNeg, h1, h2]
    exact finK_drop ⟨by rw [possT_eq, if_pos k0]; rfl, rfl, rfl⟩
  · by_cases k1 : p.op = 1 ∨ p.op = 2 ∨ p.op = 3 ∨ p.op = 4
    · have hp : possT u p = atomT u p := by rw [possT_eq, if_neg k0, if_pos k1]
      rw [hp]
      rcases k1 with h | h | h | h
      all_goals
        simp only [h] at hat
        simp only [go_sem, reduceIte, Nat.reduceEqDiff, Nat.reduceAdd, Nat.reduceSub, Nat.reduceMul, Nat.reduceLT, Nat.reduceLeDiff, Nat.reducePow, Int.reduceToNat, Int.reduceLT, Int.reduceLE, Int.reduceEq, Int.reduceNe, Int.reduceAdd, Int.reduceSub, Int.reduceMul, Int.reduceNeg, h1, h2, h]
        refine cK_vn hat ?_
        simp only [go_sem, reduceIte, Nat.reduceEqDiff, Nat.reduceAdd, Nat.reduceSub, Nat.reduceMul, Nat.reduceLT, Nat.reduceLeDiff, Nat.reducePow, Int.reduceToNat, Int.reduceLT, Int.reduceLE, Int.reduceEq, Int.reduceNe, Int.reduceAdd, Int.reduceSub, Int.reduceMul, Int.reduceNeg, h1, h2, h]
        exact finK_drop ⟨rfl, rfl, rfl⟩
    · have f1 := eq_false (fun h => k1 (.inl h) : ¬ p.op = 1)
      have f2 := eq_false (fun h => k1 (.inr (.inl h)) : ¬ p.op = 2)
      have f3 := eq_false (fun h => k1 (.inr (.inr (.inl h))) : ¬ p.op = 3)
      have f4 := eq_false (fun h => k1 (.inr (.inr (.inr h))) : ¬ p.op = 4)
      simp only [go_sem, reduceIte, Nat.reduceEqDiff, Nat.reduceAdd, Nat.reduceSub, Nat.reduceMul, Nat.reduceLT, Nat.reduceLeDiff, Nat.reducePow, Int.reduceToNat, Int.reduceLT, Int.reduceLE, Int.reduceEq, Int.reduceNe, Int.reduceAdd, Int.reduceSub, Int.reduceMul, Int.reduceNeg, h1, h2, f1, f2, f3, f4]
      generalize hβ : Heap.set _ b1 _ = β0
      have e0 : β0 b0 = some [.int .i64 u.rows, .sl .none (u.l.map Bd.d)] := by rw [← hβ]; simp only [Heap.set, if_neg h2, if_true]
      have e1 : β0 b1 = some p.cells := by rw [← hβ]; simp only [Heap.set, if_true]; rfl
      clear hβ
      refine vwq_loop (fun v => ∃ (j : Nat) (tk5 tk6 tk : Tk), j ≤ p.kids.length ∧ ((tk5 = .full ∧ tk6 = .full ∧ v.ω = []) ∨ ∃ t5 t6, t5 ≠ t6 ∧ tk5 = .live t5 1 ∧ tk6 = .live t6 1 ∧ v.ω = [t6, t5]) ∧ v.σ 2 = .pb b0 0 ∧ v.σ 3 = .pb b1 0 ∧ v.σ 5 = .sl tk5 (((p.kids.take j).map (possT u)).map codeD) ∧ v.σ 6 = .sl tk6 ((((p.kids.take j).map (possT u)).map Tr.turn).map codeD) ∧ v.σ 23 = .sl tk (p.kids.map Pr.d) ∧ v.σ 24 = .int .i64 p.kids.length ∧ v.σ 25 = .int .i64 j ∧ v.β b0 = some [.int .i64 u.rows, .sl .none (u.l.map Bd.d)] ∧ v.β b1 = some p.cells) (fun v => p.kids.length - (ival (v.σ 25)).toNat) ?_ ?_
      · exact ⟨0, .full, .full, _, by omega, .inl ⟨rfl, rfl, rfl⟩, rfl, rfl, rfl, rfl, rfl, by rw [← List.length_map (f := Pr.d)]; rfl, rfl, e0, e1⟩
      clear e0 e1 β0
      rintro σ β ω ⟨j, tk5, tk6, tk, hj, ht, q2, q3, q5, q6, q23, q24, q25, e0, e1⟩
      dsimp only [Pr.cells] at ht q2 q3 q5 q6 q23 q24 q25 e0 e1
      rcases ht with ⟨rfl, rfl, rfl⟩ | ⟨t5, t6, ht, rfl, rfl, rfl⟩
      all_goals simp only [go_sem, reduceIte, Nat.reduceEqDiff, Nat.reduceAdd, Nat.reduceSub, Nat.reduceMul, Nat.reduceLT, Nat.reduceLeDiff, Nat.reducePow, Int.reduceToNat, Int.reduceLT, Int.reduceLE, Int.reduceEq, Int.reduceNe, Int.reduceAdd, Int.reduceSub, Int.reduceMul, Int.reduceNeg, q2, q3, q5, q6, q23, q24, q25, e0, e1]
      all_goals refine cd_dec (fun g => ?_) (fun g => ?_)
      · have g' : (j : Int) < ((p.kids.map Pr.d).length : Nat) := by rw [List.length_map]; exact g
        obtain ⟨x, hx, ex⟩ := Pr_at g'
        simp only [go_sem, reduceIte, Nat.reduceEqDiff, Nat.reduceAdd, Nat.reduceSub, Nat.reduceMul, Nat.reduceLT, Nat.reduceLeDiff, Nat.reducePow, Int.reduceToNat, Int.reduceLT, Int.reduceLE, Int.reduceEq, Int.reduceNe, Int.reduceAdd, Int.reduceSub, Int.reduceMul, Int.reduceNeg, q2, q3, q5, q6, q23, q24, q25, e0, e1, ex]
        refine ⟨by omega, new_any fun b hb => ?_⟩
        have m0 : b0 ≠ b := by rintro rfl; rw [e0] at hb; cases hb
        have m1 : b1 ≠ b := by rintro rfl; rw [e1] at hb; cases hb
        clear hb
        simp only [go_sem, reduceIte, Nat.reduceEqDiff, Nat.reduceAdd, Nat.reduceSub, Nat.reduceMul, Nat.reduceLT, Nat.reduceLeDiff, Nat.reducePow, Int.reduceToNat, Int.reduceLT, Int.reduceLE, Int.reduceEq, Int.reduceNe, Int.reduceAdd, Int.reduceSub, Int.reduceMul, Int.reduceNeg, q2, q3, q5, q6, q23, q24, q25, e0, e1, ex, m0, m1]
        refine cK_vn (ih x (List.mem_of_getElem? hx)) ?_
        simp only [go_sem, reduceIte, Nat.reduceEqDiff, Nat.reduceAdd, Nat.reduceSub, Nat.reduceMul, Nat.reduceLT, Nat.reduceLeDiff, Nat.reducePow, Int.reduceToNat, Int.reduceLT, Int.reduceLE, Int.reduceEq, Int.reduceNe, Int.reduceAdd, Int.reduceSub, Int.reduceMul, Int.reduceNeg, q2, q3, q5, q6, q23, q24, q25, e0, e1, ex, m0, m1]
        refine ⟨codeD_one _, by simp only [List.length_map, List.length_take]; omega, fun t' => cK_vn (turned_ok _) ?_⟩
        simp only [go_sem, reduceIte, Nat.reduceEqDiff, Nat.reduceAdd, Nat.reduceSub, Nat.reduceMul, Nat.reduceLT, Nat.reduceLeDiff, Nat.reducePow, Int.reduceToNat, Int.reduceLT, Int.reduceLE, Int.reduceEq, Int.reduceNe, Int.reduceAdd, Int.reduceSub, Int.reduceMul, Int.reduceNeg, q2, q3, q5, q6, q23, q24, q25, e0, e1, ex, m0, m1]
        refine ⟨codeD_one _, by simp only [List.length_map, List.length_take]; omega, fun t'' hne => ?_⟩
        rw [wrap_i64 (x := (j : Int) + 1) (by omega) (by omega)]
        have ht : p.kids.take (j + 1) = p.kids.take j ++ [x] := by rw [List.take_add_one, hx]; rfl
        refine ⟨⟨j + 1, .live t' 1, .live t'' 1, tk, by omega, .inr ⟨t', t'', fun h => hne h.symm, rfl, rfl, ?_⟩, ?_⟩, by omega⟩
        · rfl
        · rw [ht]
          refine ⟨by simp [codeD], by simp [codeD], rfl, rfl, ?_⟩
          simp [Heap.set, m0, m1, e0, e1, Pr.cells]
      · have hj' : p.kids.take j = p.kids := by rw [List.take_of_length_le (by omega)]
        simp only [go_sem, reduceIte, Nat.reduceEqDiff, Nat.reduceAdd, Nat.reduceSub, Nat.reduceMul, Nat.reduceLT, Nat.reduceLeDiff, Nat.reducePow, Int.reduceToNat, Int.reduceLT, Int.reduceLE, Int.reduceEq, Int.reduceNe, Int.reduceAdd, Int.reduceSub, Int.reduceMul, Int.reduceNeg, q2, q3, q5, q6, q23, q24, q25, e0, e1]
        refine cd_dec (fun k5 => ?_) (fun k5 => ?_)
        · simp only [go_sem, reduceIte, Nat.reduceEqDiff, Nat.reduceAdd, Nat.reduceSub, Nat.reduceMul, Nat.reduceLT, Nat.reduceLeDiff, Nat.reducePow, Int.reduceToNat, Int.reduceLT, Int.reduceLE, Int.reduceEq, Int.reduceNe, Int.reduceAdd, Int.reduceSub, Int.reduceMul, Int.reduceNeg, q2, q3, q5, q6, q23, q24, q25, e0, e1]
          refine cK_vn (both_ok _ _) ?_
          simp only [go_sem, reduceIte, Nat.reduceEqDiff, Nat.reduceAdd, Nat.reduceSub, Nat.reduceMul, Nat.reduceLT, Nat.reduceLeDiff, Nat.reducePow, Int.reduceToNat, Int.reduceLT, Int.reduceLE, Int.reduceEq, Int.reduceNe, Int.reduceAdd, Int.reduceSub, Int.reduceMul, Int.reduceNeg]
          exact finK_drop ⟨by rw [hj', possT_eq, if_neg k0, if_neg k1, if_pos k5]; rfl, rfl, rfl⟩
        · simp only [go_sem, reduceIte, Nat.reduceEqDiff, Nat.reduceAdd, Nat.reduceSub, Nat.reduceMul, Nat.reduceLT, Nat.reduceLeDiff, Nat.reducePow, Int.reduceToNat, Int.reduceLT, Int.reduceLE, Int.reduceEq, Int.reduceNe, Int.reduceAdd, Int.reduceSub, Int.reduceMul, Int.reduceNeg, q2, q3, q5, q6, q23, q24, q25, e0, e1]
          refine cd_dec (fun k6 => ?_) (fun k6 => ?_)
          · simp only [go_sem, reduceIte, Nat.reduceEqDiff, Nat.reduceAdd, Nat.reduceSub, Nat.reduceMul, Nat.reduceLT, Nat.reduceLeDiff, Nat.reducePow, Int.reduceToNat, Int.reduceLT, Int.reduceLE, Int.reduceEq, Int.reduceNe, Int.reduceAdd, Int.reduceSub, Int.reduceMul, Int.reduceNeg, q2, q3, q5, q6, q23, q24, q25, e0, e1]
            refine cK_vn (both_ok _ _) ?_
            simp only [go_sem, reduceIte, Nat.reduceEqDiff, Nat.reduceAdd, Nat.reduceSub, Nat.reduceMul, Nat.reduceLT, Nat.reduceLeDiff, Nat.reducePow, Int.reduceToNat, Int.reduceLT, Int.reduceLE, Int.reduceEq, Int.reduceNe, Int.reduceAdd, Int.reduceSub, Int.reduceMul, Int.reduceNeg]
            refine cK_vn (turned_ok _) ?_
            simp only [go_sem, reduceIte, Nat.reduceEqDiff, Nat.reduceAdd, Nat.reduceSub, Nat.reduceMul, Nat.reduceLT, Nat.reduceLeDiff, Nat.reducePow, Int.reduceToNat, Int.reduceLT, Int.reduceLE, Int.reduceEq, Int.reduceNe, Int.reduceAdd, Int.reduceSub, Int.reduceMul, Int.reduceNeg]
            exact finK_drop ⟨by rw [hj', possT_eq, if_neg k0, if_neg k1, if_neg k5, if_pos k6]; rfl, rfl, rfl⟩
          · simp only [go_sem, reduceIte, Nat.reduceEqDiff, Nat.reduceAdd, Nat.reduceSub, Nat.reduceMul, Nat.reduceLT, Nat.reduceLeDiff, Nat.reducePow, Int.reduceToNat, Int.reduceLT, Int.reduceLE, Int.reduceEq, Int.reduceNe, Int.reduceAdd, Int.reduceSub, Int.reduceMul, Int.reduceNeg, q2, q3, q5, q6, q23, q24, q25, e0, e1]
            have hl1 : ((((p.kids.take j).map (possT u)).map Tr.turn).map codeD).length = p.kids.length := by simp only [List.length_map, hj']
            refine cd_dec (fun k7 => ?_) (fun k7 => ?_)
            · rw [hl1] at k7
              simp only [go_sem, reduceIte, Nat.reduceEqDiff, Nat.reduceAdd, Nat.reduceSub, Nat.reduceMul, Nat.reduceLT, Nat.reduceLeDiff, Nat.reducePow, Int.reduceToNat, Int.reduceLT, Int.reduceLE, Int.reduceEq, Int.reduceNe, Int.reduceAdd, Int.reduceSub, Int.reduceMul, Int.reduceNeg, q2, q3, q5, q6, q23, q24, q25, e0, e1]
              obtain ⟨x, hx⟩ : ∃ x, p.kids = [x] := List.length_eq_one_iff.1 (by omega)
              have ep : possT u p = (possT u x).turn := by
                rw [possT_eq, if_neg k0, if_neg k1, if_neg k5, if_neg k6, if_pos ⟨k7.1, by omega⟩, hx]; rfl
              rw [hj', ep, hx]
              exact ⟨⟨by simp, rfl⟩, by simp [D.cells, codeD], finK_drop ⟨rfl, rfl, rfl⟩⟩
            · rw [hl1] at k7
              simp only [go_sem, reduceIte, Nat.reduceEqDiff, Nat.reduceAdd, Nat.reduceSub, Nat.reduceMul, Nat.reduceLT, Nat.reduceLeDiff, Nat.reducePow, Int.reduceToNat, Int.reduceLT, Int.reduceLE, Int.reduceEq, Int.reduceNe, Int.reduceAdd, Int.reduceSub, Int.reduceMul, Int.reduceNeg, q2, q3, q5, q6, q23, q24, q25, e0, e1]
              exact finK_drop ⟨by rw [possT_eq, if_neg k0, if_neg k1, if_neg k5, if_neg k6, if_neg (by omega)]; rfl, rfl, rfl⟩
      · have g' : (j : Int) < ((p.kids.map Pr.d).length : Nat) := by rw [List.length_map]; exact g
        obtain ⟨x, hx, ex⟩ := Pr_at g'
        simp only [go_sem, reduceIte, Nat.reduceEqDiff, Nat.reduceAdd, Nat.reduceSub, Nat.reduceMul, Nat.reduceLT, Nat.reduceLeDiff, Nat.reducePow, Int.reduceToNat, Int.reduceLT, Int.reduceLE, Int.reduceEq, Int.reduceNe, Int.reduceAdd, Int.reduceSub, Int.reduceMul, Int.reduceNeg, q2, q3, q5, q6, q23, q24, q25, e0, e1, ex]
        refine ⟨by omega, new_any fun b hb => ?_⟩
        have m0 : b0 ≠ b := by rintro rfl; rw [e0] at hb; cases hb
        have m1 : b1 ≠ b := by rintro rfl; rw [e1] at hb; cases hb
        clear hb
        simp only [go_sem, reduceIte, Nat.reduceEqDiff, Nat.reduceAdd, Nat.reduceSub, Nat.reduceMul, Nat.reduceLT, Nat.reduceLeDiff, Nat.reducePow, Int.reduceToNat, Int.reduceLT, Int.reduceLE, Int.reduceEq, Int.reduceNe, Int.reduceAdd, Int.reduceSub, Int.reduceMul, Int.reduceNeg, q2, q3, q5, q6, q23, q24, q25, e0, e1, ex, m0, m1]
        refine cK_vn (ih x (List.mem_of_getElem? hx)) ?_
        simp only [go_sem, reduceIte, Nat.reduceEqDiff, Nat.reduceAdd, Nat.reduceSub, Nat.reduceMul, Nat.reduceLT, Nat.reduceLeDiff, Nat.reducePow, Int.reduceToNat, Int.reduceLT, Int.reduceLE, Int.reduceEq, Int.reduceNe, Int.reduceAdd, Int.reduceSub, Int.reduceMul, Int.reduceNeg, q2, q3, q5, q6, q23, q24, q25, e0, e1, ex, m0, m1]
        refine ⟨by simp, codeD_one _, by simp only [List.length_map, List.length_take]; omega, fun t' hn' => ?_⟩
        have eg : tokGone [t6, t5] (.live t5 1) = [t6] := by simp [tokGone, ht, Ne.symm ht]
        rw [eg]
        refine cK_vn (turned_ok _) ?_
        have n6 : t' ≠ t6 := fun h => hn' (by simp [h])
        simp only [go_sem, reduceIte, Nat.reduceEqDiff, Nat.reduceAdd, Nat.reduceSub, Nat.reduceMul, Nat.reduceLT, Nat.reduceLeDiff, Nat.reducePow, Int.reduceToNat, Int.reduceLT, Int.reduceLE, Int.reduceEq, Int.reduceNe, Int.reduceAdd, Int.reduceSub, Int.reduceMul, Int.reduceNeg, q2, q3, q5, q6, q23, q24, q25, e0, e1, ex, m0, m1]
        refine ⟨by simp, codeD_one _, by simp only [List.length_map, List.length_take]; omega, fun t'' hn'' => ?_⟩
        have eg2 : tokGone [t', t6] (.live t6 1) = [t'] := by simp [tokGone, n6, Ne.symm n6]
        rw [eg2]
        rw [wrap_i64 (x := (j : Int) + 1) (by omega) (by omega)]
        have htk : p.kids.take (j + 1) = p.kids.take j ++ [x] := by rw [List.take_add_one, hx]; rfl
        refine ⟨⟨j + 1, .live t' 1, .live t'' 1, tk, by omega, .inr ⟨t', t'', fun h => hn'' (by simp [h]), rfl, rfl, rfl⟩, ?_⟩, by omega⟩
        rw [htk]
        refine ⟨by simp [codeD], by simp [codeD], rfl, rfl, ?_⟩
        simp [Heap.set, m0, m1, e0, e1, Pr.cells]
      · have hj' : p.kids.take j = p.kids := by rw [List.take_of_length_le (by omega)]
        simp only [go_sem, reduceIte, Nat.reduceEqDiff, Nat.reduceAdd, Nat.reduceSub, Nat.reduceMul, Nat.reduceLT, Nat.reduceLeDiff, Nat.reducePow, Int.reduceToNat, Int.reduceLT, Int.reduceLE, Int.reduceEq, Int.reduceNe, Int.reduceAdd, Int.reduceSub, Int.reduceMul, Int.reduceNeg, q2, q3, q5, q6, q23, q24, q25, e0, e1]
        refine cd_dec (fun k5 => ?_) (fun k5 => ?_)
        · simp only [go_sem, reduceIte, Nat.reduceEqDiff, Nat.reduceAdd, Nat.reduceSub, Nat.reduceMul, Nat.reduceLT, Nat.reduceLeDiff, Nat.reducePow, Int.reduceToNat, Int.reduceLT, Int.reduceLE, Int.reduceEq, Int.reduceNe, Int.reduceAdd, Int.reduceSub, Int.reduceMul, Int.reduceNeg, q2, q3, q5, q6, q23, q24, q25, e0, e1]
          refine cK_vn (both_ok _ _) ?_
          simp only [go_sem, reduceIte, Nat.reduceEqDiff, Nat.reduceAdd, Nat.reduceSub, Nat.reduceMul, Nat.reduceLT, Nat.reduceLeDiff, Nat.reducePow, Int.reduceToNat, Int.reduceLT, Int.reduceLE, Int.reduceEq, Int.reduceNe, Int.reduceAdd, Int.reduceSub, Int.reduceMul, Int.reduceNeg]
          exact finK_drop ⟨by rw [hj', possT_eq, if_neg k0, if_neg k1, if_pos k5]; rfl, rfl, rfl⟩
        · simp only [go_sem, reduceIte, Nat.reduceEqDiff, Nat.reduceAdd, Nat.reduceSub, Nat.reduceMul, Nat.reduceLT, Nat.reduceLeDiff, Nat.reducePow, Int.reduceToNat, Int.reduceLT, Int.reduceLE, Int.reduceEq, Int.reduceNe, Int.reduceAdd, Int.reduceSub, Int.reduceMul, Int.reduceNeg, q2, q3, q5, q6, q23, q24, q25, e0, e1]
          refine cd_dec (fun k6 => ?_) (fun k6 => ?_)
          · simp only [go_sem, reduceIte, Nat.reduceEqDiff, Nat.reduceAdd, Nat.reduceSub, Nat.reduceMul, Nat.reduceLT, Nat.reduceLeDiff, Nat.reducePow, Int.reduceToNat, Int.reduceLT, Int.reduceLE, Int.reduceEq, Int.reduceNe, Int.reduceAdd, Int.reduceSub, Int.reduceMul, Int.reduceNeg, q2, q3, q5, q6, q23, q24, q25, e0, e1]
            refine cK_vn (both_ok _ _) ?_
            simp only [go_sem, reduceIte, Nat.reduceEqDiff, Nat.reduceAdd, Nat.reduceSub, Nat.reduceMul, Nat.reduceLT, Nat.reduceLeDiff, Nat.reducePow, Int.reduceToNat, Int.reduceLT, Int.reduceLE, Int.reduceEq, Int.reduceNe, Int.reduceAdd, Int.reduceSub, Int.reduceMul, Int.reduceNeg]
            refine cK_vn (turned_ok _) ?_
            simp only [go_sem, reduceIte, Nat.reduceEqDiff, Nat.reduceAdd, Nat.reduceSub, Nat.reduceMul, Nat.reduceLT, Nat.reduceLeDiff, Nat.reducePow, Int.reduceToNat, Int.reduceLT, Int.reduceLE, Int.reduceEq, Int.reduceNe, Int.reduceAdd, Int.reduceSub, Int.reduceMul, Int.reduceNeg]
            exact finK_drop ⟨by rw [hj', possT_eq, if_neg k0, if_neg k1, if_neg k5, if_pos k6]; rfl, rfl, rfl⟩
          · simp only [go_sem, reduceIte, Nat.reduceEqDiff, Nat.reduceAdd, Nat.reduceSub, Nat.reduceMul, Nat.reduceLT, Nat.reduceLeDiff, Nat.reducePow, Int.reduceToNat, Int.reduceLT, Int.reduceLE, Int.reduceEq, Int.reduceNe, Int.reduceAdd, Int.reduceSub, Int.reduceMul, Int.reduceNeg, q2, q3, q5, q6, q23, q24, q25, e0, e1]
            have hl1 : ((((p.kids.take j).map (possT u)).map Tr.turn).map codeD).length = p.kids.length := by simp only [List.length_map, hj']
            refine cd_dec (fun k7 => ?_) (fun k7 => ?_)
            · rw [hl1] at k7
              simp only [go_sem, reduceIte, Nat.reduceEqDiff, Nat.reduceAdd, Nat.reduceSub, Nat.reduceMul, Nat.reduceLT, Nat.reduceLeDiff, Nat.reducePow, Int.reduceToNat, Int.reduceLT, Int.reduceLE, Int.reduceEq, Int.reduceNe, Int.reduceAdd, Int.reduceSub, Int.reduceMul, Int.reduceNeg, q2, q3, q5, q6, q23, q24, q25, e0, e1]
              obtain ⟨x, hx⟩ : ∃ x, p.kids = [x] := List.length_eq_one_iff.1 (by omega)
              have ep : possT u p = (possT u x).turn := by
                rw [possT_eq, if_neg k0, if_neg k1, if_neg k5, if_neg k6, if_pos ⟨k7.1, by omega⟩, hx]; rfl
              rw [hj', ep, hx]
              exact ⟨⟨by simp, rfl⟩, by simp [D.cells, codeD], finK_drop ⟨rfl, rfl, rfl⟩⟩
            · rw [hl1] at k7
              simp only [go_sem, reduceIte, Nat.reduceEqDiff, Nat.reduceAdd, Nat.reduceSub, Nat.reduceMul, Nat.reduceLT, Nat.reduceLeDiff, Nat.reducePow, Int.reduceToNat, Int.reduceLT, Int.reduceLE, Int.reduceEq, Int.reduceNe, Int.reduceAdd, Int.reduceSub, Int.reduceMul, Int.reduceNeg, q2, q3, q5, q6, q23, q24, q25, e0, e1]
              exact finK_drop ⟨by rw [possT_eq, if_neg k0, if_neg k1, if_neg k5, if_neg k6, if_neg (by omega)]; rfl, rfl, rfl⟩theorem possible_ok (u : Sm) : ∀ (n : Nat) (p : Pr), SizeOf.sizeOf p ≤ n → p.Lim → VN P G 45 [.agg u.cells, .agg p.cells] (.int .i64 (possT u p).code)
  | 0, p, h, _ => by cases p; simp at h
  | n + 1, p, hn, hL => by
    obtain ⟨_, z3, hk⟩ := hL
    exact possible_step u p z3 fun k hk' => possible_ok u n k (Nat.le_of_lt_succ (Nat.lt_of_lt_of_le (Pr.kid_lt (p := p) hk') hn)) (hk k hk')
end Go.Proofs.YtgkfcgfobckaaaaS
namespace Go.Proofs.YtgkfcgfobckaaaaS
open Go Go.Proofs.YtgkfcgfobckaaaaV

variable {G : Heap}
attribute [local irreducible] VN VC VX VQ

theorem cmpB_anti : ∀ x y : List UInt8, (0 ≤ Lib.compareBytes x y ↔ Lib.compareBytes y x ≤ 0) := fun x y => by
  have h1 := compareBytes_lt x y
  have h2 := compareBytes_lt y x
  constructor
  · intro h
    rcases Int.lt_trichotomy (Lib.compareBytes y x) 0 with g | g | g
    · omega
    · omega
    · have := h1.1.2 (h2.2.1.1 g); omega
  · intro h
    rcases Int.lt_trichotomy (Lib.compareBytes x y) 0 with g | g | g
    · have := h2.2.1.2 (h1.1.1 g); omega
    · omega
    · omega
theorem cmpV_anti (a b : Vl) : (0 ≤ cmpV a b ↔ cmpV b a ≤ 0) := by
  obtain ⟨an, ai, as_⟩ := a
  obtain ⟨bn, bi, bs_⟩ := b
  have := cmpB_anti as_.data.toList bs_.data.toList
  simp only [cmpV, cmpN, cmpS]
  cases an <;> cases bn <;> simp
  all_goals repeat' split
  all_goals first | omega | simp_all
theorem innR_eq (b : Bd) (p : Pr) (hb : b.min.null = false) : innR b p = ((inn b p).y, (inn b p).n) := by
  have key : ∀ (l : List Vl) (t : Bool × Bool), l.foldl (innR1 b) t = (t.1 || l.any (inside b), t.2 && !(decide (b.min = b.max) && l.any fun x => decide (b.min = x))) := by
    intro l
    induction l with
    | nil => intro t; simp
    | cons e l ih =>
      intro t
      rw [List.foldl_cons, ih]
      have hd : (decide (e = b.min) && decide (e = b.max)) = (decide (b.min = b.max) && decide (b.min = e)) := by
        by_cases g : b.min = e
        · subst g; simp
        · have g' : ¬ e = b.min := fun x => g x.symm
          simp [g, g']
      cases hn : e.null with
      | true =>
        have g : ¬ b.min = e := fun x => by rw [x, hn] at hb; cases hb
        simp [innR1, hn, inside, g]
      | false =>
        simp only [innR1, hn, inside, List.any_cons, hd, cmpV_anti, Bool.false_eq_true, if_false, Bool.not_false, Bool.true_and]
        cases decide (b.min = b.max) <;> cases decide (b.min = e) <;> simp [Bool.or_assoc]
  rw [innR, key]
  simp [inn]
def Tr.cells (t : Tr) : List D := [.bool t.y, .bool t.n, .bool t.u]
set_option maxHeartbeats 2000000 in
theorem refatom_ok (u : Sm) (p : Pr) (ho : p.op = 1 ∨ p.op = 2 ∨ p.op = 3 ∨ p.op = 4) : VN P G 57 [.agg u.cells, .agg p.cells] (.agg (atomT u p).cells) := by
  simp only [Sm.cells, Pr.cells, Tr.cells]
  unfold VN
  refine VC.ofc (fun | 99999999 => [(0, [0, 1, 2, 3, 4, 5, 6, 7, 16, 23, 50, 52, 56, 61])] | _ => []) [.cell 4 88] mixed Try.func57 rfl rfl rfl rfl (by decide +kernel) (by simp) ?_
  simp only [go_sem, reduceIte, Nat.reduceEqDiff, Nat.reduceAdd, Nat.reduceSub, Nat.reduceMul, Nat.reduceLT, Nat.reduceLeDiff, Nat.reducePow, Int.reduceToNat, Int.reduceLT, Int.reduceLE, Int.reduceEq, Int.reduceNe, Int.reduceAdd, Int.reduceSub, Int.reduceMul, Int.reduceNeg]
  intro b0
  refine new_1 fun b1 h1 h2 => ?_
  simp only [go_sem, reduceIte, Nat.reduceEqDiff, Nat.reduceAdd, Nat.reduceSub, Nat.reduceMul, Nat.reduceLT, Nat.reduceLeDiff, Nat.reducePow, Int.reduceToNat, Int.reduceLT, Int.reduceLE, Int.reduceEq, Int.reduceNe, Int.reduceAdd, Int.reduceSub, Int.reduceMul, Int.reduceNeg, h1, h2]
  refine new_2 fun b2 h3 h4 h5 => ?_
  simp only [go_sem, reduceIte, Nat.reduceEqDiff, Nat.reduceAdd, Nat.reduceSub, Nat.reduceMul, Nat.reduceLT, Nat.reduceLeDiff, Nat.reducePow, Int.reduceToNat, Int.reduceLT, Int.reduceLE, Int.reduceEq, Int.reduceNe, Int.reduceAdd, Int.reduceSub, Int.reduceMul, Int.reduceNeg, h1, h2, h3, h4, h5]
  refine cK_vn (Find_ok u p.id) ?_
  obtain ⟨x, hx⟩ : ∃ x, orZ (findB u.l p.id) = x := ⟨_, rfl⟩
  obtain ⟨is, his⟩ : ∃ is, (findB u.l p.id).isSome = is := ⟨_, rfl⟩
  rw [hx, his]
  cases is
  all_goals simp only [go_sem, reduceIte, Nat.reduceEqDiff, Nat.reduceAdd, Nat.reduceSub, Nat.reduceMul, Nat.reduceLT, Nat.reduceLeDiff, Nat.reducePow, Int.reduceToNat, Int.reduceLT, Int.reduceLE, Int.reduceEq, Int.reduceNe, Int.reduceAdd, Int.reduceSub, Int.reduceMul, Int.reduceNeg, h1, h2, Bd.cells]
  all_goals refine new_any fun b3 h6 => ?_
  all_goals
    have n0 : b0 ≠ b3 := by rintro rfl; simp [Heap.set, h2, h4] at h6
    have n1 : b1 ≠ b3 := by rintro rfl; simp [Heap.set, h5] at h6
    have n2 : b2 ≠ b3 := by rintro rfl; simp [Heap.set] at h6
    clear h6
  all_goals simp only [go_sem, reduceIte, Nat.reduceEqDiff, Nat.reduceAdd, Nat.reduceSub, Nat.reduceMul, Nat.reduceLT, Nat.reduceLeDiff, Nat.reducePow, Int.reduceToNat, Int.reduceLT, Int.reduceLE, Int.reduceEq, Int.reduceNe, Int.reduceAdd, Int.reduceSub, Int.reduceMul, Int.reduceNeg, h1, h2, h3, h4, h5, n0, n1, n2]
  · have ef : findB u.l p.id = none := by cases hf : findB u.l p.id; rfl; rw [hf] at his; cases his
    refine finK_drop ⟨?_, rfl, rfl⟩
    rw [atomT, ef]
    by_cases k4 : p.op = 4 <;> simp [k4, D.er, D.er1]
  · have ef : findB u.l p.id = some x := by cases hf : findB u.l p.id; rw [hf] at his; cases his; rw [hf] at hx; rw [← hx]; rfl
    refine cd_dec (fun k4 => ?_) (fun k4 => ?_)
    · simp only [go_sem, reduceIte, Nat.reduceEqDiff, Nat.reduceAdd, Nat.reduceSub, Nat.reduceMul, Nat.reduceLT, Nat.reduceLeDiff, Nat.reducePow, Int.reduceToNat, Int.reduceLT, Int.reduceLE, Int.reduceEq, Int.reduceNe, Int.reduceAdd, Int.reduceSub, Int.reduceMul, Int.reduceNeg, h1, h2, h3, h4, h5, n0, n1, n2]
      refine finK_drop ⟨?_, rfl, rfl⟩
      rw [atomT, ef]; simp [k4, D.er, D.er1]
    · simp only [go_sem, reduceIte, Nat.reduceEqDiff, Nat.reduceAdd, Nat.reduceSub, Nat.reduceMul, Nat.reduceLT, Nat.reduceLeDiff, Nat.reducePow, Int.reduceToNat, Int.reduceLT, Int.reduceLE, Int.reduceEq, Int.reduceNe, Int.reduceAdd, Int.reduceSub, Int.reduceMul, Int.reduceNeg, h1, h2, h3, h4, h5, n0, n1, n2]
      refine new_any fun b4 h6 => ?_
      have m0 : b0 ≠ b4 := by rintro rfl; simp [Heap.set, h2, h4, n0] at h6
      have m1 : b1 ≠ b4 := by rintro rfl; simp [Heap.set, h5, n1] at h6
      have m2 : b2 ≠ b4 := by rintro rfl; simp [Heap.set, n2] at h6
      have m3 : b3 ≠ b4 := by rintro rfl; simp [Heap.set] at h6
      clear h6
      repeat' (first
        | refine cd_dec (fun _ => ?_) (fun _ => ?_)
        | refine cd_b (fun _ => ?_) (fun _ => ?_)
        | refine cK_vn (refbetween_ok x p) ?_
        | refine cK_vn (refin_ok x p) ?_
        | refine cK_vn (refprefix_ok x p) ?_
        | simp only [go_sem, reduceIte, Nat.reduceEqDiff, Nat.reduceAdd, Nat.reduceSub, Nat.reduceMul, Nat.reduceLT, Nat.reduceLeDiff, Nat.reducePow, Int.reduceToNat, Int.reduceLT, Int.reduceLE, Int.reduceEq, Int.reduceNe, Int.reduceAdd, Int.reduceSub, Int.reduceMul, Int.reduceNeg, h1, h2, h3, h4, h5, n0, n1, n2, m0, m1, m2, m3])
      all_goals refine finK_drop ⟨?_, rfl, rfl⟩
      all_goals rw [atomT, ef]
      all_goals clear h1 h2 h3 h4 h5 n0 n1 n2 m0 m1 m2 m3
      all_goals simp_all [D.er, D.er1, innR_eq]
      all_goals split <;> first | (exfalso; omega) | (simp; done) | (simp_all; done) | (simp_all; omega)
end Go.Proofs.YtgkfcgfobckaaaaS
namespace Go.Proofs.YtgkfcgfobckaaaaS
open Go Go.Proofs.YtgkfcgfobckaaaaV

variable {G : Heap}
attribute [local irreducible] VN VC VX VQ

def ufd (P : Program) (t : TypeId) (f : Nat) : Option (TypeId × Nat) := match P.underlying t with
  | some (.struct fs) => (fs[f]?).map fun fd => (fd.type, fd.offset)
  | _ => none
theorem vfield_ufd {P : Program} {t : TypeId} {f : Nat} {ft : TypeId} {off : Nat} (h : ufd P t f = some (ft, off)) (cs : List D) : vfield P t f (.agg cs) = vload P ft cs off := by
  unfold ufd at h
  unfold vfield
  split at h
  · rename_i fs hu
    rw [hu]
    simp only
    cases hf : fs[f]? with
    | none => rw [hf] at h; cases h
    | some fd => rw [hf] at h; cases h; rfl
  · cases h
theorem vfield88 (cs : List D) : vfield P 88 0 (.agg cs) = vload P 4 cs 0 := vfield_ufd (by kernel_rfl) cs
theorem set_none {β : Heap} {a b : Nat} {cs : List D} : ((β.set a cs) b = none) = ((a ≠ b ∧ b ≠ a) ∧ β b = none) := by
  unfold Heap.set
  by_cases h : b = a
  · simp [h]
  · simp [h, Ne.symm h]
theorem box_ne {β : Heap} {a b : Nat} {x : List D} (h : β b = none) (e : β a = some x) : a ≠ b ∧ b ≠ a := by
  constructor <;> (rintro rfl; rw [e] at h; cases h)

def trD (t : Tr) : D := .agg t.cells
theorem refturned_ok (t : Tr) : VN P G 58 [.agg t.cells] (.agg [.bool t.turn.y, .bool t.turn.n, .bool t.turn.u]) := by
  simp only [Tr.cells]
  unfold VN
  refine VC.ofc (fun | 99999999 => [(0, [0, 1, 2])] | _ => []) [.cell 2 88] mixed Try.func58 rfl rfl rfl rfl (by decide +kernel) (by simp) ?_
  simp only [go_sem, reduceIte, Nat.reduceEqDiff, Nat.reduceAdd, Nat.reduceSub, Nat.reduceMul, Nat.reduceLT, Nat.reduceLeDiff, Nat.reducePow, Int.reduceToNat, Int.reduceLT, Int.reduceLE, Int.reduceEq, Int.reduceNe, Int.reduceAdd, Int.reduceSub, Int.reduceMul, Int.reduceNeg]
  intro b0
  refine new_1 fun b1 h1 h2 => ?_
  simp only [go_sem, reduceIte, Nat.reduceEqDiff, Nat.reduceAdd, Nat.reduceSub, Nat.reduceMul, Nat.reduceLT, Nat.reduceLeDiff, Nat.reducePow, Int.reduceToNat, Int.reduceLT, Int.reduceLE, Int.reduceEq, Int.reduceNe, Int.reduceAdd, Int.reduceSub, Int.reduceMul, Int.reduceNeg, h1, h2]
  exact finK_drop ⟨rfl, rfl, rfl⟩
set_option maxHeartbeats 1000000 in
theorem refboth_ok (tk : Tk) (l : List Tr) : VN P G 59 [.sl tk (l.map trD)] (.agg (bothT l).cells) := by
  unfold VN
  refine VC.small2 fun hsm => ?_
  have z1 := hsm (.sl tk (l.map trD)) (List.mem_cons_self ..) (.sl tk (l.map trD)) (by simp [D.cells])
  simp only [Small, mostLen, List.length_map] at z1
  clear hsm
  refine VC.ofc (fun | 99999999 => [(0, [0, 2, 3, 4, 5, 10])] | _ => []) [.cell 2 88] mixed Try.func59 rfl rfl rfl rfl (by decide +kernel) (by simp) ?_
  simp only [go_sem, reduceIte, Nat.reduceEqDiff, Nat.reduceAdd, Nat.reduceSub, Nat.reduceMul, Nat.reduceLT, Nat.reduceLeDiff, Nat.reducePow, Int.reduceToNat, Int.reduceLT, Int.reduceLE, Int.reduceEq, Int.reduceNe, Int.reduceAdd, Int.reduceSub, Int.reduceMul, Int.reduceNeg]
  intro b0
  refine new_1 fun b1 h1 h2 => ?_
  generalize hβ : Heap.set _ b1 _ = β0
  have e0 : β0 b0 = some [.bool false, .bool false, .bool false] := by rw [← hβ]; simp [Heap.set, h1, h2]
  have e1 : β0 b1 = some [.bool true, .bool false, .bool false] := by rw [← hβ]; simp [Heap.set, h1, h2]
  clear hβ
  refine vwq_loop (fun v => ∃ (j : Nat) (s : Tr × Bool), j ≤ l.length ∧ (l.drop j).foldl bothS s = l.foldl bothS (⟨true, false, false⟩, true) ∧ v.σ 0 = .sl tk (l.map trD) ∧ v.σ 2 = .pb b0 0 ∧ v.σ 3 = .pb b1 0 ∧ v.σ 4 = .bool s.2 ∧ v.σ 5 = .int .i64 j ∧ v.β b0 = some [.bool false, .bool false, .bool false] ∧ v.β b1 = some s.1.cells ∧ v.ω = []) (fun v => l.length - (ival (v.σ 5)).toNat) ?_ ?_
  · exact ⟨0, _, by omega, rfl, rfl, rfl, rfl, rfl, rfl, e0, e1, rfl⟩
  clear e0 e1 β0
  rintro σ β ω ⟨j, ⟨⟨y, n, u⟩, o⟩, hj, hs, q0, q2, q3, q4, q5, e0, e1, rfl⟩
  dsimp only [Tr.cells] at q0 q2 q3 q4 q5 e0 e1
  simp only [go_sem, reduceIte, Nat.reduceEqDiff, Nat.reduceAdd, Nat.reduceSub, Nat.reduceMul, Nat.reduceLT, Nat.reduceLeDiff, Nat.reducePow, Int.reduceToNat, Int.reduceLT, Int.reduceLE, Int.reduceEq, Int.reduceNe, Int.reduceAdd, Int.reduceSub, Int.reduceMul, Int.reduceNeg, q0, q2, q3, q4, q5, e0, e1]
  refine cd_dec (fun g => ?_) (fun g => ?_)
  · obtain ⟨x, hx, ex⟩ := at_map (f := trD) (l := l) (j := j) (by rw [List.length_map] at g; omega)
    simp only [trD, Tr.cells] at ex
    have hd : l.drop j = x :: l.drop (j + 1) := by
      obtain ⟨h1, h2⟩ := List.getElem?_eq_some_iff.1 hx
      rw [List.drop_eq_getElem_cons h1, h2]
    rw [hd, List.foldl_cons] at hs
    have g1 : ((0 : Int) ≤ j) = True := eq_true (by omega)
    have g2 := eq_true g
    rw [List.length_map] at g
    simp only [go_sem, reduceIte, Nat.reduceEqDiff, Nat.reduceAdd, Nat.reduceSub, Nat.reduceMul, Nat.reduceLT, Nat.reduceLeDiff, Nat.reducePow, Int.reduceToNat, Int.reduceLT, Int.reduceLE, Int.reduceEq, Int.reduceNe, Int.reduceAdd, Int.reduceSub, Int.reduceMul, Int.reduceNeg, q0, q2, q3, q4, q5, e0, e1, ex, h1, h2, g1, g2, Bool.not_eq_true', imp_self]
    rw [wrap_i64 (x := (j : Int) + 1) (by omega) (by omega)]
    refine ⟨by cases o <;> simp, ⟨j + 1, _, by omega, hs, ?_⟩, by omega⟩
    simp [bothS, Heap.set, h1, h2, e0, e1, Tr.cells]
  · simp only [go_sem, reduceIte, Nat.reduceEqDiff, Nat.reduceAdd, Nat.reduceSub, Nat.reduceMul, Nat.reduceLT, Nat.reduceLeDiff, Nat.reducePow, Int.reduceToNat, Int.reduceLT, Int.reduceLE, Int.reduceEq, Int.reduceNe, Int.reduceAdd, Int.reduceSub, Int.reduceMul, Int.reduceNeg, q0, q2, q3, q4, q5, e0, e1, h1, h2]
    rw [List.drop_eq_nil_of_le (by rw [List.length_map] at g; omega)] at hs
    exact finK_drop ⟨by rw [bothT, ← hs]; simp [Tr.cells, D.er, D.er1, Bool.and_comm], rfl, rfl⟩

def trDs (u : Sm) (l : List Pr) : List Tr := l.map (possT u)
set_option maxHeartbeats 2000000 in
theorem refposs_step (u : Sm) (p : Pr) (z3 : p.kids.length ≤ 1048576) (ih : ∀ k ∈ p.kids, VN P G 46 [.agg u.cells, .agg k.cells] (.agg (possT u k).cells)) : VN P G 46 [.agg u.cells, .agg p.cells] (.agg (possT u p).cells) := by
  have hat := refatom_ok (G := G) u p
  simp only [Sm.cells, Pr.cells, Tr.cells] at hat ⊢
  unfold VN
  refine VC.ofc (fun | 13 => [(0, []), (1, []), (2, []), (3, []), (4, []), (5, []), (6, [7]), (7, []), (8, [])] | 99999999 => [(0, [0, 1, 2, 3, 4, 5, 6, 7, 8, 10, 11, 14, 28, 47, 53, 60])] | _ => []) [.cell 4 88] mixed Try.func46 rfl rfl rfl rfl (by decide +kernel) (by simp) ?_
  simp only [go_sem, reduceIte, Nat.reduceEqDiff, Nat.reduceAdd, Nat.reduceSub, Nat.reduceMul, Nat.reduceLT, Nat.reduceLeDiff, Nat.reducePow, Int.reduceToNat, Int.reduceLT, Int.reduceLE, Int.reduceEq, Int.reduceNe, Int.reduceAdd, Int.reduceSub, Int.reduceMul, Int.reduceNeg]
  intro b0
  refine new_1 fun b1 h1 h2 => ?_
  refine new_2 fun b2 h3 h4 h5 => ?_
  simp only [go_sem, reduceIte, Nat.reduceEqDiff, Nat.reduceAdd, Nat.reduceSub, Nat.reduceMul, Nat.reduceLT, Nat.reduceLeDiff, Nat.reducePow, Int.reduceToNat, Int.reduceLT, Int.reduceLE, Int.reduceEq, Int.reduceNe, Int.reduceAdd, Int.reduceSub, Int.reduceMul, Int.reduceNeg, h1, h2, h3, h4, h5]
  refine cd_dec (fun k0 => ?_) (fun k0 => ?_)
  · simp only [go_sem, reduceIte, Nat.reduceEqDiff, Nat.reduceAdd, Nat.reduceSub, Nat.reduceMul, Nat.reduceLT, Nat.reduceLeDiff, Nat.reducePow, Int.reduceToNat, Int.reduceLT, Int.reduceLE, Int.reduceEq, Int.reduceNe, Int.reduceAdd, Int.reduceSub, Int.reduceMul, Int.reduceNeg, h1, h2, h3, h4, h5]
    exact finK_drop ⟨by rw [possT_eq, if_pos k0]; rfl, rfl, rfl⟩
  by_cases k1 : p.op = 1 ∨ p.op = 2 ∨ p.op = 3 ∨ p.op = 4
  · have hp : possT u p = atomT u p := by rw [possT_eq, if_neg k0, if_pos k1]
    rw [hp]
    replace hat := hat k1
    rcases k1 with h | h | h | h
    all_goals
      simp only [h] at hat
      simp only [go_sem, reduceIte, Nat.reduceEqDiff, Nat.reduceAdd, Nat.reduceSub, Nat.reduceMul, Nat.reduceLT, Nat.reduceLeDiff, Nat.reducePow, Int.reduceToNat, Int.reduceLT, Int.reduceLE, Int.reduceEq, Int.reduceNe, Int.reduceAdd, Int.reduceSub, Int.reduceMul, Int.reduceNeg, h1, h2, h3, h4, h5, h]
      refine cK_vn hat ?_
      simp only [go_sem, reduceIte, Nat.reduceEqDiff, Nat.reduceAdd, Nat.reduceSub, Nat.reduceMul, Nat.reduceLT, Nat.reduceLeDiff, Nat.reducePow, Int.reduceToNat, Int.reduceLT, Int.reduceLE, Int.reduceEq, Int.reduceNe, Int.reduceAdd, Int.reduceSub, Int.reduceMul, Int.reduceNeg, h1, h2, h3, h4, h5, h]
      exact finK_drop ⟨rfl, rfl, rfl⟩
  have f1 := eq_false (fun h => k1 (.inl h) : ¬ p.op = 1)
  have f2 := eq_false (fun h => k1 (.inr (.inl h)) : ¬ p.op = 2)
  have f3 := eq_false (fun h => k1 (.inr (.inr (.inl h))) : ¬ p.op = 3)
  have f4 := eq_false (fun h => k1 (.inr (.inr (.inr h))) : ¬ p.op = 4)
  simp only [go_sem, reduceIte, Nat.reduceEqDiff, Nat.reduceAdd, Nat.reduceSub, Nat.reduceMul, Nat.reduceLT, Nat.reduceLeDiff, Nat.reducePow, Int.reduceToNat, Int.reduceLT, Int.reduceLE, Int.reduceEq, Int.reduceNe, Int.reduceAdd, Int.reduceSub, Int.reduceMul, Int.reduceNeg, h1, h2, h3, h4, h5, f1, f2, f3, f4]
  generalize hβ : Heap.set _ b2 _ = β0
  have e0 : β0 b0 = some [.int .i64 u.rows, .sl .none (u.l.map Bd.d)] := by rw [← hβ]; simp [Heap.set, h1, h2, h3, h4, h5]
  have e1 : β0 b1 = some p.cells := by rw [← hβ]; simp [Heap.set, h1, h2, h3, h4, h5, Pr.cells]
  have e2 : β0 b2 = some [.bool false, .bool false, .bool false] := by rw [← hβ]; simp [Heap.set, h1, h2, h3, h4, h5]
  clear hβ
  refine vwq_loop (fun v => ∃ (j : Nat) (tk5 tk6 : Tk), j ≤ p.kids.length ∧ ((tk5 = .full ∧ tk6 = .full ∧ v.ω = []) ∨ ∃ t5 t6, t5 ≠ t6 ∧ tk5 = .live t5 3 ∧ tk6 = .live t6 3 ∧ v.ω = [t6, t5]) ∧ v.σ 2 = .pb b0 0 ∧ v.σ 3 = .pb b1 0 ∧ v.σ 4 = .pb b2 0 ∧ v.σ 5 = .sl tk5 (((p.kids.take j).map (possT u)).map trD) ∧ v.σ 6 = .sl tk6 ((((p.kids.take j).map (possT u)).map Tr.turn).map trD) ∧ v.σ 7 = .int .i64 j ∧ v.β b0 = some [.int .i64 u.rows, .sl .none (u.l.map Bd.d)] ∧ v.β b1 = some p.cells ∧ v.β b2 = some [.bool false, .bool false, .bool false]) (fun v => p.kids.length - (ival (v.σ 7)).toNat) ?_ ?_
  · exact ⟨0, .full, .full, by omega, .inl ⟨rfl, rfl, rfl⟩, rfl, rfl, rfl, rfl, rfl, rfl, e0, e1, e2⟩
  clear e0 e1 e2 β0
  rintro σ β ω ⟨j, tk5, tk6, hj, ht, q2, q3, q4, q5, q6, q7, e0, e1, e2⟩
  dsimp only [Pr.cells] at ht q2 q3 q4 q5 q6 q7 e0 e1 e2
  have hc : ∀ l : List Tr, ∀ x ∈ l.map trD, x.cells.length = 3 := fun l x hx => by
    obtain ⟨t, _, rfl⟩ := List.mem_map.1 hx; rfl
  rcases ht with ⟨rfl, rfl, rfl⟩ | ⟨t5, t6, ht, rfl, rfl, rfl⟩
  all_goals simp only [go_sem, reduceIte, Nat.reduceEqDiff, Nat.reduceAdd, Nat.reduceSub, Nat.reduceMul, Nat.reduceLT, Nat.reduceLeDiff, Nat.reducePow, Int.reduceToNat, Int.reduceLT, Int.reduceLE, Int.reduceEq, Int.reduceNe, Int.reduceAdd, Int.reduceSub, Int.reduceMul, Int.reduceNeg, q2, q3, q4, q5, q6, q7, e0, e1, e2]
  all_goals refine cd_dec (fun g => ?_) (fun g => ?_)
  · obtain ⟨x, hx, ex⟩ := Pr_at g
    rw [List.length_map] at g
    have hm := ih x (List.mem_of_getElem? hx)
    simp only [Tr.cells] at hm
    have htk : p.kids.take (j + 1) = p.kids.take j ++ [x] := by rw [List.take_add_one, hx]; rfl
    simp only [go_sem, reduceIte, Nat.reduceEqDiff, Nat.reduceAdd, Nat.reduceSub, Nat.reduceMul, Nat.reduceLT, Nat.reduceLeDiff, Nat.reducePow, Int.reduceToNat, Int.reduceLT, Int.reduceLE, Int.reduceEq, Int.reduceNe, Int.reduceAdd, Int.reduceSub, Int.reduceMul, Int.reduceNeg, q2, q3, q4, q5, q6, q7, e0, e1, e2, ex]
    refine ⟨⟨by omega, by rw [List.length_map]; omega⟩, cE_vn hm ?_⟩
    simp only [go_sem, reduceIte, Nat.reduceEqDiff, Nat.reduceAdd, Nat.reduceSub, Nat.reduceMul, Nat.reduceLT, Nat.reduceLeDiff, Nat.reducePow, Int.reduceToNat, Int.reduceLT, Int.reduceLE, Int.reduceEq, Int.reduceNe, Int.reduceAdd, Int.reduceSub, Int.reduceMul, Int.reduceNeg, q2, q3, q4, q5, q6, q7, e0, e1, e2, ex]
    refine new_any fun b hb => ?_
    have m0 := box_ne hb e0
    have m1 := box_ne hb e1
    have m2 := box_ne hb e2
    clear hb
    refine ⟨hc _, by simp only [List.length_map, List.length_take]; omega, fun t' => cK_vn (refturned_ok _) ?_⟩
    simp only [go_sem, reduceIte, Nat.reduceEqDiff, Nat.reduceAdd, Nat.reduceSub, Nat.reduceMul, Nat.reduceLT, Nat.reduceLeDiff, Nat.reducePow, Int.reduceToNat, Int.reduceLT, Int.reduceLE, Int.reduceEq, Int.reduceNe, Int.reduceAdd, Int.reduceSub, Int.reduceMul, Int.reduceNeg, q2, q3, q4, q5, q6, q7, e0, e1, e2, ex, m0, m1, m2]
    refine ⟨hc _, by simp only [List.length_map, List.length_take]; omega, fun t'' hne => ?_⟩
    rw [wrap_i64 (x := (j : Int) + 1) (by omega) (by omega)]
    refine ⟨⟨j + 1, .live t' 3, .live t'' 3, by omega, .inr ⟨t', t'', fun h => hne h.symm, rfl, rfl, rfl⟩, ?_⟩, by omega⟩
    rw [htk]
    simp [trD, Tr.cells, Heap.set, m0, m1, m2, e0, e1, e2, Pr.cells]
  · have hj' : p.kids.take j = p.kids := by rw [List.length_map] at g; rw [List.take_of_length_le (by omega)]
    have hl : (((((p.kids.take j).map (possT u)).map Tr.turn).map trD).length : Int) = p.kids.length := by simp only [List.length_map, hj']
    have hl' : (((((p.kids.take j).map (possT u))).map trD).length : Int) = p.kids.length := by simp only [List.length_map, hj']
    simp only [go_sem, reduceIte, Nat.reduceEqDiff, Nat.reduceAdd, Nat.reduceSub, Nat.reduceMul, Nat.reduceLT, Nat.reduceLeDiff, Nat.reducePow, Int.reduceToNat, Int.reduceLT, Int.reduceLE, Int.reduceEq, Int.reduceNe, Int.reduceAdd, Int.reduceSub, Int.reduceMul, Int.reduceNeg, q2, q3, q4, q5, q6, q7, e0, e1, e2]
    refine cd_dec (fun k5 => ?_) (fun k5 => ?_)
    · simp only [go_sem, reduceIte, Nat.reduceEqDiff, Nat.reduceAdd, Nat.reduceSub, Nat.reduceMul, Nat.reduceLT, Nat.reduceLeDiff, Nat.reducePow, Int.reduceToNat, Int.reduceLT, Int.reduceLE, Int.reduceEq, Int.reduceNe, Int.reduceAdd, Int.reduceSub, Int.reduceMul, Int.reduceNeg, q2, q3, q4, q5, q6, q7, e0, e1, e2]
      refine cK_vn (refboth_ok _ _) ?_
      simp only [Tr.cells]
      simp only [go_sem, reduceIte, Nat.reduceEqDiff, Nat.reduceAdd, Nat.reduceSub, Nat.reduceMul, Nat.reduceLT, Nat.reduceLeDiff, Nat.reducePow, Int.reduceToNat, Int.reduceLT, Int.reduceLE, Int.reduceEq, Int.reduceNe, Int.reduceAdd, Int.reduceSub, Int.reduceMul, Int.reduceNeg, q2, q3, q4, q5, q6, q7, e0, e1, e2]
      exact finK_drop ⟨by rw [hj', possT_eq, if_neg k0, if_neg k1, if_pos k5]; rfl, rfl, rfl⟩
    simp only [go_sem, reduceIte, Nat.reduceEqDiff, Nat.reduceAdd, Nat.reduceSub, Nat.reduceMul, Nat.reduceLT, Nat.reduceLeDiff, Nat.reducePow, Int.reduceToNat, Int.reduceLT, Int.reduceLE, Int.reduceEq, Int.reduceNe, Int.reduceAdd, Int.reduceSub, Int.reduceMul, Int.reduceNeg, q2, q3, q4, q5, q6, q7, e0, e1, e2]
    refine cd_dec (fun k6 => ?_) (fun k6 => ?_)
    · simp only [go_sem, reduceIte, Nat.reduceEqDiff, Nat.reduceAdd, Nat.reduceSub, Nat.reduceMul, Nat.reduceLT, Nat.reduceLeDiff, Nat.reducePow, Int.reduceToNat, Int.reduceLT, Int.reduceLE, Int.reduceEq, Int.reduceNe, Int.reduceAdd, Int.reduceSub, Int.reduceMul, Int.reduceNeg, q2, q3, q4, q5, q6, q7, e0, e1, e2]
      refine cK_vn (refboth_ok _ _) ?_
      simp only [go_sem, reduceIte, Nat.reduceEqDiff, Nat.reduceAdd, Nat.reduceSub, Nat.reduceMul, Nat.reduceLT, Nat.reduceLeDiff, Nat.reducePow, Int.reduceToNat, Int.reduceLT, Int.reduceLE, Int.reduceEq, Int.reduceNe, Int.reduceAdd, Int.reduceSub, Int.reduceMul, Int.reduceNeg, q2, q3, q4, q5, q6, q7, e0, e1, e2]
      refine cK_vn (refturned_ok _) ?_
      simp only [Tr.cells]
      simp only [go_sem, reduceIte, Nat.reduceEqDiff, Nat.reduceAdd, Nat.reduceSub, Nat.reduceMul, Nat.reduceLT, Nat.reduceLeDiff, Nat.reducePow, Int.reduceToNat, Int.reduceLT, Int.reduceLE, Int.reduceEq, Int.reduceNe, Int.reduceAdd, Int.reduceSub, Int.reduceMul, Int.reduceNeg, q2, q3, q4, q5, q6, q7, e0, e1, e2]
      exact finK_drop ⟨by rw [hj', possT_eq, if_neg k0, if_neg k1, if_neg k5, if_pos k6]; rfl, rfl, rfl⟩
    simp only [go_sem, reduceIte, Nat.reduceEqDiff, Nat.reduceAdd, Nat.reduceSub, Nat.reduceMul, Nat.reduceLT, Nat.reduceLeDiff, Nat.reducePow, Int.reduceToNat, Int.reduceLT, Int.reduceLE, Int.reduceEq, Int.reduceNe, Int.reduceAdd, Int.reduceSub, Int.reduceMul, Int.reduceNeg, q2, q3, q4, q5, q6, q7, e0, e1, e2]
    refine cd_dec (fun k7 => ?_) (fun k7 => ?_)
    · first | rw [hl] at k7 | rw [hl'] at k7
      simp only [go_sem, reduceIte, Nat.reduceEqDiff, Nat.reduceAdd, Nat.reduceSub, Nat.reduceMul, Nat.reduceLT, Nat.reduceLeDiff, Nat.reducePow, Int.reduceToNat, Int.reduceLT, Int.reduceLE, Int.reduceEq, Int.reduceNe, Int.reduceAdd, Int.reduceSub, Int.reduceMul, Int.reduceNeg, q2, q3, q4, q5, q6, q7, e0, e1, e2]
      obtain ⟨x, hx⟩ : ∃ x, p.kids = [x] := List.length_eq_one_iff.1 (by omega)
      have ep : possT u p = (possT u x).turn := by
        rw [possT_eq, if_neg k0, if_neg k1, if_neg k5, if_neg k6, if_pos ⟨k7.1, by omega⟩, hx]; rfl
      rw [ep, hj', hx]
      simp only [go_sem, reduceIte, Nat.reduceEqDiff, Nat.reduceAdd, Nat.reduceSub, Nat.reduceMul, Nat.reduceLT, Nat.reduceLeDiff, Nat.reducePow, Int.reduceToNat, Int.reduceLT, Int.reduceLE, Int.reduceEq, Int.reduceNe, Int.reduceAdd, Int.reduceSub, Int.reduceMul, Int.reduceNeg, q2, q3, q4, q5, q6, q7, e0, e1, e2, trD, Tr.cells]
      exact finK_drop ⟨rfl, rfl, rfl⟩
    · first | rw [hl] at k7 | rw [hl'] at k7
      simp only [go_sem, reduceIte, Nat.reduceEqDiff, Nat.reduceAdd, Nat.reduceSub, Nat.reduceMul, Nat.reduceLT, Nat.reduceLeDiff, Nat.reducePow, Int.reduceToNat, Int.reduceLT, Int.reduceLE, Int.reduceEq, Int.reduceNe, Int.reduceAdd, Int.reduceSub, Int.reduceMul, Int.reduceNeg, q2, q3, q4, q5, q6, q7, e0, e1, e2]
      exact finK_drop ⟨by rw [possT_eq, if_neg k0, if_neg k1, if_neg k5, if_neg k6, if_neg (by omega)]; rfl, rfl, rfl⟩
  · obtain ⟨x, hx, ex⟩ := Pr_at g
    rw [List.length_map] at g
    have hm := ih x (List.mem_of_getElem? hx)
    simp only [Tr.cells] at hm
    have htk : p.kids.take (j + 1) = p.kids.take j ++ [x] := by rw [List.take_add_one, hx]; rfl
    simp only [go_sem, reduceIte, Nat.reduceEqDiff, Nat.reduceAdd, Nat.reduceSub, Nat.reduceMul, Nat.reduceLT, Nat.reduceLeDiff, Nat.reducePow, Int.reduceToNat, Int.reduceLT, Int.reduceLE, Int.reduceEq, Int.reduceNe, Int.reduceAdd, Int.reduceSub, Int.reduceMul, Int.reduceNeg, q2, q3, q4, q5, q6, q7, e0, e1, e2, ex]
    refine ⟨⟨by omega, by rw [List.length_map]; omega⟩, cE_vn hm ?_⟩
    simp only [go_sem, reduceIte, Nat.reduceEqDiff, Nat.reduceAdd, Nat.reduceSub, Nat.reduceMul, Nat.reduceLT, Nat.reduceLeDiff, Nat.reducePow, Int.reduceToNat, Int.reduceLT, Int.reduceLE, Int.reduceEq, Int.reduceNe, Int.reduceAdd, Int.reduceSub, Int.reduceMul, Int.reduceNeg, q2, q3, q4, q5, q6, q7, e0, e1, e2, ex]
    refine new_any fun b hb => ?_
    have m0 := box_ne hb e0
    have m1 := box_ne hb e1
    have m2 := box_ne hb e2
    clear hb
    refine ⟨by simp, hc _, by simp only [List.length_map, List.length_take]; omega, fun t' hn' => ?_⟩
    have eg : tokGone [t6, t5] (.live t5 3) = [t6] := by simp [tokGone, ht, Ne.symm ht]
    rw [eg]
    refine cK_vn (refturned_ok _) ?_
    have n6 : t' ≠ t6 := fun h => hn' (by simp [h])
    simp only [go_sem, reduceIte, Nat.reduceEqDiff, Nat.reduceAdd, Nat.reduceSub, Nat.reduceMul, Nat.reduceLT, Nat.reduceLeDiff, Nat.reducePow, Int.reduceToNat, Int.reduceLT, Int.reduceLE, Int.reduceEq, Int.reduceNe, Int.reduceAdd, Int.reduceSub, Int.reduceMul, Int.reduceNeg, q2, q3, q4, q5, q6, q7, e0, e1, e2, ex, m0, m1, m2]
    refine ⟨by simp, hc _, by simp only [List.length_map, List.length_take]; omega, fun t'' hn'' => ?_⟩
    have eg2 : tokGone [t', t6] (.live t6 3) = [t'] := by simp [tokGone, n6, Ne.symm n6]
    rw [eg2]
    rw [wrap_i64 (x := (j : Int) + 1) (by omega) (by omega)]
    refine ⟨⟨j + 1, .live t' 3, .live t'' 3, by omega, .inr ⟨t', t'', fun h => hn'' (by simp [h]), rfl, rfl, rfl⟩, ?_⟩, by omega⟩
    rw [htk]
    simp [trD, Tr.cells, Heap.set, m0, m1, m2, e0, e1, e2, Pr.cells]
  · have hj' : p.kids.take j = p.kids := by rw [List.length_map] at g; rw [List.take_of_length_le (by omega)]
    have hl : (((((p.kids.take j).map (possT u)).map Tr.turn).map trD).length : Int) = p.kids.length := by simp only [List.length_map, hj']
    have hl' : (((((p.kids.take j).map (possT u))).map trD).length : Int) = p.kids.length := by simp only [List.length_map, hj']
    simp only [go_sem, reduceIte, Nat.reduceEqDiff, Nat.reduceAdd, Nat.reduceSub, Nat.reduceMul, Nat.reduceLT, Nat.reduceLeDiff, Nat.reducePow, Int.reduceToNat, Int.reduceLT, Int.reduceLE, Int.reduceEq, Int.reduceNe, Int.reduceAdd, Int.reduceSub, Int.reduceMul, Int.reduceNeg, q2, q3, q4, q5, q6, q7, e0, e1, e2]
    refine cd_dec (fun k5 => ?_) (fun k5 => ?_)
    · simp only [go_sem, reduceIte, Nat.reduceEqDiff, Nat.reduceAdd, Nat.reduceSub, Nat.reduceMul, Nat.reduceLT, Nat.reduceLeDiff, Nat.reducePow, Int.reduceToNat, Int.reduceLT, Int.reduceLE, Int.reduceEq, Int.reduceNe, Int.reduceAdd, Int.reduceSub, Int.reduceMul, Int.reduceNeg, q2, q3, q4, q5, q6, q7, e0, e1, e2]
      refine cK_vn (refboth_ok _ _) ?_
      simp only [Tr.cells]
      simp only [go_sem, reduceIte, Nat.reduceEqDiff, Nat.reduceAdd, Nat.reduceSub, Nat.reduceMul, Nat.reduceLT, Nat.reduceLeDiff, Nat.reducePow, Int.reduceToNat, Int.reduceLT, Int.reduceLE, Int.reduceEq, Int.reduceNe, Int.reduceAdd, Int.reduceSub, Int.reduceMul, Int.reduceNeg, q2, q3, q4, q5, q6, q7, e0, e1, e2]
      exact finK_drop ⟨by rw [hj', possT_eq, if_neg k0, if_neg k1, if_pos k5]; rfl, rfl, rfl⟩
    simp only [go_sem, reduceIte, Nat.reduceEqDiff, Nat.reduceAdd, Nat.reduceSub, Nat.reduceMul, Nat.reduceLT, Nat.reduceLeDiff, Nat.reducePow, Int.reduceToNat, Int.reduceLT, Int.reduceLE, Int.reduceEq, Int.reduceNe, Int.reduceAdd, Int.reduceSub, Int.reduceMul, Int.reduceNeg, q2, q3, q4, q5, q6, q7, e0, e1, e2]
    refine cd_dec (fun k6 => ?_) (fun k6 => ?_)
    · simp only [go_sem, reduceIte, Nat.reduceEqDiff, Nat.reduceAdd, Nat.reduceSub, Nat.reduceMul, Nat.reduceLT, Nat.reduceLeDiff, Nat.reducePow, Int.reduceToNat, Int.reduceLT, Int.reduceLE, Int.reduceEq, Int.reduceNe, Int.reduceAdd, Int.reduceSub, Int.reduceMul, Int.reduceNeg, q2, q3, q4, q5, q6, q7, e0, e1, e2]
      refine cK_vn (refboth_ok _ _) ?_
      simp only [go_sem, reduceIte, Nat.reduceEqDiff, Nat.reduceAdd, Nat.reduceSub, Nat.reduceMul, Nat.reduceLT, Nat.reduceLeDiff, Nat.reducePow, Int.reduceToNat, Int.reduceLT, Int.reduceLE, Int.reduceEq, Int.reduceNe, Int.reduceAdd, Int.reduceSub, Int.reduceMul, Int.reduceNeg, q2, q3, q4, q5, q6, q7, e0, e1, e2]
      refine cK_vn (refturned_ok _) ?_
      simp only [Tr.cells]
      simp only [go_sem, reduceIte, Nat.reduceEqDiff, Nat.reduceAdd, Nat.reduceSub, Nat.reduceMul, Nat.reduceLT, Nat.reduceLeDiff, Nat.reducePow, Int.reduceToNat, Int.reduceLT, Int.reduceLE, Int.reduceEq, Int.reduceNe, Int.reduceAdd, Int.reduceSub, Int.reduceMul, Int.reduceNeg, q2, q3, q4, q5, q6, q7, e0, e1, e2]
      exact finK_drop ⟨by rw [hj', possT_eq, if_neg k0, if_neg k1, if_neg k5, if_pos k6]; rfl, rfl, rfl⟩
    simp only [go_sem, reduceIte, Nat.reduceEqDiff, Nat.reduceAdd, Nat.reduceSub, Nat.reduceMul, Nat.reduceLT, Nat.reduceLeDiff, Nat.reducePow, Int.reduceToNat, Int.reduceLT, Int.reduceLE, Int.reduceEq, Int.reduceNe, Int.reduceAdd, Int.reduceSub, Int.reduceMul, Int.reduceNeg, q2, q3, q4, q5, q6, q7, e0, e1, e2]
    refine cd_dec (fun k7 => ?_) (fun k7 => ?_)
    · first | rw [hl] at k7 | rw [hl'] at k7
      simp only [go_sem, reduceIte, Nat.reduceEqDiff, Nat.reduceAdd, Nat.reduceSub, Nat.reduceMul, Nat.reduceLT, Nat.reduceLeDiff, Nat.reducePow, Int.reduceToNat, Int.reduceLT, Int.reduceLE, Int.reduceEq, Int.reduceNe, Int.reduceAdd, Int.reduceSub, Int.reduceMul, Int.reduceNeg, q2, q3, q4, q5, q6, q7, e0, e1, e2]
      obtain ⟨x, hx⟩ : ∃ x, p.kids = [x] := List.length_eq_one_iff.1 (by omega)
      have ep : possT u p = (possT u x).turn := by
        rw [possT_eq, if_neg k0, if_neg k1, if_neg k5, if_neg k6, if_pos ⟨k7.1, by omega⟩, hx]; rfl
      rw [ep, hj', hx]
      simp only [go_sem, reduceIte, Nat.reduceEqDiff, Nat.reduceAdd, Nat.reduceSub, Nat.reduceMul, Nat.reduceLT, Nat.reduceLeDiff, Nat.reducePow, Int.reduceToNat, Int.reduceLT, Int.reduceLE, Int.reduceEq, Int.reduceNe, Int.reduceAdd, Int.reduceSub, Int.reduceMul, Int.reduceNeg, q2, q3, q4, q5, q6, q7, e0, e1, e2, trD, Tr.cells]
      exact finK_drop ⟨rfl, rfl, rfl⟩
    · first | rw [hl] at k7 | rw [hl'] at k7
      simp only [go_sem, reduceIte, Nat.reduceEqDiff, Nat.reduceAdd, Nat.reduceSub, Nat.reduceMul, Nat.reduceLT, Nat.reduceLeDiff, Nat.reducePow, Int.reduceToNat, Int.reduceLT, Int.reduceLE, Int.reduceEq, Int.reduceNe, Int.reduceAdd, Int.reduceSub, Int.reduceMul, Int.reduceNeg, q2, q3, q4, q5, q6, q7, e0, e1, e2]
      exact finK_drop ⟨by rw [possT_eq, if_neg k0, if_neg k1, if_neg k5, if_neg k6, if_neg (by omega)]; rfl, rfl, rfl⟩
theorem refposs_ok (u : Sm) : ∀ (n : Nat) (p : Pr), SizeOf.sizeOf p ≤ n → p.Lim → VN P G 46 [.agg u.cells, .agg p.cells] (.agg (possT u p).cells)
  | 0, p, h, _ => by cases p; simp at h
  | n + 1, p, hn, hL => by
    obtain ⟨_, z3, hk⟩ := hL
    exact refposs_step u p z3 fun k hk' => refposs_ok u n k (Nat.le_of_lt_succ (Nat.lt_of_lt_of_le (Pr.kid_lt (p := p) hk') hn)) (hk k hk')

def mayT (u : Sm) (p : Pr) : Bool := decide (0 < u.rows) && (possT u p).y
def mustT (u : Sm) (p : Pr) : Bool := decide (u.rows ≤ 0) || decide (possT u p = ⟨true, false, false⟩)
theorem code_yes (t : Tr) : (t.code = 2) = (t = ⟨true, false, false⟩) := by
  obtain ⟨a, b, c⟩ := t; cases a <;> cases b <;> cases c <;> simp [Tr.code]
theorem May_ok (u : Sm) (p : Pr) (hL : p.Lim) : VN P G 31 [.agg u.cells, .agg p.cells] (.bool (mayT u p)) := by
  have h0 := possible_ok (G := G) u _ p (Nat.le_refl _) hL
  simp only [Sm.cells, Pr.cells] at h0 ⊢
  unfold VN
  refine VC.ofs (fun | 99999999 => [(0, [0, 1, 2, 3, 4])] | _ => []) [4] mixed Try.func31 rfl rfl rfl rfl (by decide +kernel) (by simp) ?_
  simp only [go_sem, reduceIte, Nat.reduceEqDiff, Nat.reduceAdd, Nat.reduceSub, Nat.reduceMul, Nat.reduceLT, Nat.reduceLeDiff, Nat.reducePow, Int.reduceToNat, Int.reduceLT, Int.reduceLE, Int.reduceEq, Int.reduceNe, Int.reduceAdd, Int.reduceSub, Int.reduceMul, Int.reduceNeg]
  intro b0
  refine new_1 fun b1 h1 h2 => ?_
  simp only [go_sem, reduceIte, Nat.reduceEqDiff, Nat.reduceAdd, Nat.reduceSub, Nat.reduceMul, Nat.reduceLT, Nat.reduceLeDiff, Nat.reducePow, Int.reduceToNat, Int.reduceLT, Int.reduceLE, Int.reduceEq, Int.reduceNe, Int.reduceAdd, Int.reduceSub, Int.reduceMul, Int.reduceNeg, h1, h2]
  by_cases g : 0 < u.rows
  all_goals simp only [go_sem, reduceIte, Nat.reduceEqDiff, Nat.reduceAdd, Nat.reduceSub, Nat.reduceMul, Nat.reduceLT, Nat.reduceLeDiff, Nat.reducePow, Int.reduceToNat, Int.reduceLT, Int.reduceLE, Int.reduceEq, Int.reduceNe, Int.reduceAdd, Int.reduceSub, Int.reduceMul, Int.reduceNeg, h1, h2, g]
  all_goals repeat' (first | refine cK_vn h0 ?_ | simp only [go_sem, reduceIte, Nat.reduceEqDiff, Nat.reduceAdd, Nat.reduceSub, Nat.reduceMul, Nat.reduceLT, Nat.reduceLeDiff, Nat.reducePow, Int.reduceToNat, Int.reduceLT, Int.reduceLE, Int.reduceEq, Int.reduceNe, Int.reduceAdd, Int.reduceSub, Int.reduceMul, Int.reduceNeg, h1, h2, g, and_y])
  all_goals exact finK_drop ⟨by simp [mayT, mustT, g, D.er, D.er1], rfl, rfl⟩
theorem refMay_ok (u : Sm) (p : Pr) (hL : p.Lim) : VN P G 32 [.agg u.cells, .agg p.cells] (.bool (mayT u p)) := by
  have h0 := refposs_ok (G := G) u _ p (Nat.le_refl _) hL
  simp only [Sm.cells, Pr.cells, Tr.cells] at h0 ⊢
  unfold VN
  refine VC.ofs (fun | 99999999 => [(0, [0, 1, 2, 3, 4])] | _ => []) [4] mixed Try.func32 rfl rfl rfl rfl (by decide +kernel) (by simp) ?_
  simp only [go_sem, reduceIte, Nat.reduceEqDiff, Nat.reduceAdd, Nat.reduceSub, Nat.reduceMul, Nat.reduceLT, Nat.reduceLeDiff, Nat.reducePow, Int.reduceToNat, Int.reduceLT, Int.reduceLE, Int.reduceEq, Int.reduceNe, Int.reduceAdd, Int.reduceSub, Int.reduceMul, Int.reduceNeg]
  intro b0
  refine new_1 fun b1 h1 h2 => ?_
  simp only [go_sem, reduceIte, Nat.reduceEqDiff, Nat.reduceAdd, Nat.reduceSub, Nat.reduceMul, Nat.reduceLT, Nat.reduceLeDiff, Nat.reducePow, Int.reduceToNat, Int.reduceLT, Int.reduceLE, Int.reduceEq, Int.reduceNe, Int.reduceAdd, Int.reduceSub, Int.reduceMul, Int.reduceNeg, h1, h2]
  by_cases g : 0 < u.rows
  all_goals simp only [go_sem, reduceIte, Nat.reduceEqDiff, Nat.reduceAdd, Nat.reduceSub, Nat.reduceMul, Nat.reduceLT, Nat.reduceLeDiff, Nat.reducePow, Int.reduceToNat, Int.reduceLT, Int.reduceLE, Int.reduceEq, Int.reduceNe, Int.reduceAdd, Int.reduceSub, Int.reduceMul, Int.reduceNeg, h1, h2, g]
  all_goals repeat' (first | refine cK_vn h0 ?_ | simp only [go_sem, reduceIte, Nat.reduceEqDiff, Nat.reduceAdd, Nat.reduceSub, Nat.reduceMul, Nat.reduceLT, Nat.reduceLeDiff, Nat.reducePow, Int.reduceToNat, Int.reduceLT, Int.reduceLE, Int.reduceEq, Int.reduceNe, Int.reduceAdd, Int.reduceSub, Int.reduceMul, Int.reduceNeg, h1, h2, g, Try.underlying88, List.getElem?_toArray, List.getElem?_cons_zero])
  all_goals exact finK_drop ⟨by simp [mayT, mustT, g, D.er, D.er1], rfl, rfl⟩
end Go.Proofs.YtgkfcgfobckaaaaS
namespace Go.Proofs.YtgkfcgfobckaaaaS
open Go Go.Proofs.YtgkfcgfobckaaaaV

variable {G : Heap}
attribute [local irreducible] VN VC VX VQ

def Vl.nul : Vl := ⟨true, 0, ByteArray.empty⟩
def nullC : List D := [.bool true, .int .i64 0, .str ByteArray.empty]
abbrev Cl := Int × Vl
def clD (c : Cl) : D := .agg [.int .i64 c.1, .bool c.2.null, .int .i64 c.2.n, .str c.2.s]
def intD (i : Int) : D := .int .i64 i

def lesserV (a b : Vl) : Vl := if a.null = true ∨ (b.null = false ∧ cmpV b a < 0) then b else a
def greaterV (a b : Vl) : Vl := if a.null = true ∨ (b.null = false ∧ 0 < cmpV b a) then b else a
/-- The value of a field in a row. -/
def getV (r : List Cl) (id : Int) : Vl := match r with
  | [] => Vl.nul
  | c :: l => if c.1 = id then (if c.2.null = true then Vl.nul else c.2) else getV l id
theorem Cl_at {l : List Cl} {j : Nat} (h : j < l.length) : ∃ c, l[j]? = some c ∧ (l.map clD).getD j .any = .agg [.int .i64 c.1, .bool c.2.null, .int .i64 c.2.n, .str c.2.s] := at_map h
theorem drop_at {α : Type} {l : List α} {j : Nat} {x : α} (hx : l[j]? = some x) : l.drop j = x :: l.drop (j + 1) := by
  obtain ⟨h1, h2⟩ := List.getElem?_eq_some_iff.1 hx
  rw [List.drop_eq_getElem_cons h1, h2]
/-- A row to which may be appended, and the tokens about it. -/
def TW (m : Nat) (tk : Tk) (ω : List Nat) : Prop := (tk = .full ∧ ω = []) ∨ ∃ t, tk = .live t m ∧ ω = [t]
theorem TW.ok {m : Nat} {tk : Tk} {ω : List Nat} (h : TW m tk ω) : tokOk m ω tk = True := by
  rcases h with ⟨rfl, rfl⟩ | ⟨t, rfl, rfl⟩
  · rfl
  · simp [tokOk]
theorem TW.gone {m : Nat} {tk : Tk} {ω : List Nat} (h : TW m tk ω) : tokGone ω tk = [] := by
  rcases h with ⟨rfl, rfl⟩ | ⟨t, rfl, rfl⟩
  · rfl
  · simp [tokGone]
theorem TW.full (m : Nat) : TW m .full [] := .inl ⟨rfl, rfl⟩
theorem TW.live (m t : Nat) : TW m (.live t m) [t] := .inr ⟨t, rfl, rfl⟩

structure Fd where
  id : Int
  name : ByteArray
  type : Int
  parent : Int
  deriving DecidableEq
def fdD (f : Fd) : D := .agg [.int .i64 f.id, .str f.name, .int .i64 f.type, .int .i64 f.parent]
theorem Fd_at {l : List Fd} {j : Nat} (h : j < l.length) : ∃ f, l[j]? = some f ∧ (l.map fdD).getD j .any = .agg [.int .i64 f.id, .str f.name, .int .i64 f.type, .int .i64 f.parent] := at_map h
def leavesF (l : List Fd) : List Int := (l.filter fun f => !decide (f.type = 6)).map (·.id)
theorem leavesF_len (l : List Fd) : (leavesF l).length ≤ l.length := by
  unfold leavesF; rw [List.length_map]; exact List.length_filter_le ..
theorem intD_cells (l : List Int) : ∀ x ∈ l.map intD, x.cells.length = 1 := fun x hx => by
  obtain ⟨t, _, rfl⟩ := List.mem_map.1 hx; rfl
end Go.Proofs.YtgkfcgfobckaaaaS
namespace Go.Proofs.YtgkfcgfobckaaaaS
open Go Go.Proofs.YtgkfcgfobckaaaaV

variable {G : Heap}
attribute [local irreducible] VN VC VX VQ

abbrev Rw := List Cl
def rwD (r : Rw) : D := .agg [.sl .none (r.map clD)]
theorem Rw_at {l : List Rw} {j : Nat} (h : j < l.length) : ∃ r, l[j]? = some r ∧ (l.map rwD).getD j .any = .agg [.sl .none (r.map clD)] := at_map h
theorem intD_at {l : List Int} {j : Nat} (h : j < l.length) : ∃ r, l[j]? = some r ∧ (l.map intD).getD j .any = .int .i64 r := at_map h
def bdS (b : Bd) (r : Rw) : Bd := if (getV r b.id).null = true then ⟨b.id, b.nulls + 1, b.min, b.max⟩ else ⟨b.id, b.nulls, lesserV b.min (getV r b.id), greaterV b.max (getV r b.id)⟩
def bdF (l : List Rw) (id : Int) : Bd := l.foldl bdS ⟨id, 0, Vl.nul, Vl.nul⟩
theorem bdS_id (b : Bd) (r : Rw) : (bdS b r).id = b.id := by unfold bdS; split <;> rfl
theorem Bd_cells8 (l : List Bd) : ∀ x ∈ l.map Bd.d, x.cells.length = 8 := fun x hx => by
  obtain ⟨t, _, rfl⟩ := List.mem_map.1 hx; rfl
def ofF (ids : List Int) (l : List Rw) : Sm := ⟨l.length, ids.map (bdF l)⟩
end Go.Proofs.YtgkfcgfobckaaaaS
