
import Derived.Test.YtnoenipdooackaaGreatDoorCB
set_option linter.unusedVariables false
set_option linter.unusedSimpArgs false
namespace Go.Proofs.YtnoenipdooackaaGreatDoorS
open Go Go.Proofs.YtnoenipdooackaaGreatDoorV

variable {G : Heap}

mutual
def possT (u : Sm) : Pr → Tr
  | .mk op id lo hi set text kids =>
    if op = 0 then ⟨true, false, false⟩
    else if op = 1 ∨ op = 2 ∨ op = 3 ∨ op = 4 then atomT u (.mk op id lo hi set text kids)
    else if op = 5 then bothT (possTs u kids)
    else if op = 6 then (bothT ((possTs u kids).map Tr.turn)).turn
    else if op = 7 ∧ kids.length = 1 then (((possTs u kids).map Tr.turn)[0]?).getD ⟨false, false, true⟩
    else ⟨false, false, true⟩
def possTs (u : Sm) : List Pr → List Tr
  | [] => []
  | p :: l => possT u p :: possTs u l
end
theorem possTs_eq (u : Sm) : ∀ l : List Pr, possTs u l = l.map (possT u)
  | [] => by simp only [possTs, List.map_nil]
  | p :: l => by simp only [possTs, possTs_eq u l, List.map_cons]
theorem possT_eq (u : Sm) (p : Pr) : possT u p = if p.op = 0 then ⟨true, false, false⟩
    else if p.op = 1 ∨ p.op = 2 ∨ p.op = 3 ∨ p.op = 4 then atomT u p
    else if p.op = 5 then bothT (p.kids.map (possT u))
    else if p.op = 6 then (bothT ((p.kids.map (possT u)).map Tr.turn)).turn
    else if p.op = 7 ∧ p.kids.length = 1 then (((p.kids.map (possT u)).map Tr.turn)[0]?).getD ⟨false, false, true⟩
    else ⟨false, false, true⟩ := by
  cases p; simp only [possT, possTs_eq]; rfl
theorem codeD_one (l : List Tr) : ∀ x ∈ l.map codeD, x.cells.length = 1 := fun x hx => by
  obtain ⟨t, _, rfl⟩ := List.mem_map.1 hx; rfl
/-- No list of operands is very long. -/
inductive Pr.Lim : Pr → Prop where
  | mk (p : Pr) : p.kids.length ≤ 1048576 → (∀ k ∈ p.kids, Pr.Lim k) → Pr.Lim p
set_option maxHeartbeats 2000000 in
theorem possible_step (u : Sm) (p : Pr) (z3 : p.kids.length ≤ 1048576) (ih : ∀ k ∈ p.kids, VN P G 40 [.agg u.cells, .agg k.cells] (.int .i64 (possT u k).code)) : VN P G 40 [.agg u.cells, .agg p.cells] (.int .i64 (possT u p).code) := by
  have hat := atom_ok (G := G) u p
  simp only [Sm.cells, Pr.cells] at hat ⊢
  refine VC.ofs (fun | 99999999 => [(0, [0, 1, 2, 3, 4, 5, 6, 8, 9, 11, 12, 14, 23, 24, 25, 26, 42, 48, 55])] | _ => []) [4] mixed Tryz.func40 rfl rfl rfl rfl (by decide +kernel) (by simp) ?_
  simp only [go_sem, reduceIte, Nat.reduceEqDiff, Nat.reduceAdd, Nat.reduceSub, Nat.reduceMul, Nat.reduceLT, Nat.reduceLeDiff, Nat.reducePow, Int.reduceToNat, Int.reduceLT, Int.reduceLE, Int.reduceEq, Int.reduceNe, Int.reduceAdd, Int.reduceSub, Int.reduceMul, Int.reduceNeg]
  intro b0
  refine new_1 fun b1 h1 h2 => ?_
  refine cd_dec (fun k0 => ?_) (fun k0 => ?_)
  · simp only [go_sem, reduceIte, Nat.reduceEqDiff, Nat.reduceAdd, Nat.reduceSub, Nat.reduceMul, Nat.reduceLT, Nat.reduceLeDiff, Nat.reducePow, Int.reduceToNat, Int.reduceLT, Int.reduceLE, Int.reduceEq, Int.reduceNe, Int.reduceAdd, Int.reduceSub, Int.reduceMul, Int.reduceNeg, h1, h2]
    exact finK_drop ⟨by rw [possT_eq, if_pos k0]; rfl, rfl, rfl⟩
  · by_cases k1 : p.op = 1 ∨ p.op = 2 ∨ p.op = 3 ∨ p.op = 4
    · have hp : possT u p = atomT u p := by rw [possT_eq, if_neg k0, if_pos k1]
      rw [hp]
      rcases k1 with h | h | h | h
      all_goals
        simp only [h] at hat
        simp only [go_sem, reduceIte, Nat.reduceEqDiff, Nat.reduceAdd, Nat.reduceSub, Nat.reduceMul, Nat.reduceLT, Nat.reduceLeDiff, Nat.reducePow, Int.reduceToNat, Int.reduceLT, Int.reduceLE, Int.reduceEq, Int.reduceNe, Int.reduceAdd, Int.reduceSub, Int.reduceMul, Int.reduceNeg, h1, h2, h]
        refine cK_vn hat ?_
        simp only [go_sem, reduceIte, Nat.reduceEqDiff, Nat.reduceAdd, Nat.reduceSub, Nat.reduceMul, Nat.reduceLT, Nat.reduceLeDiff, Nat.reducePow, Int.reduceToNat, Int.reduceLT, Int.reduceLE, Int.reduceEq, Int.reduceNe, Int.reduceAdd, Int.reduceSub, Int.reduceMul, Int.reduceNeg, h1, h2, h]
        exact finK_drop ⟨rfl, rfl, rfl⟩
    · have f1 := eq_false (fun h => k1 (.inl h) : ¬ p.op = 1)
      have f2 := eq_false (fun h => k1 (.inr (.inl h)) : ¬ p.op = 2)
      have f3 := eq_false (fun h => k1 (.inr (.inr (.inl h))) : ¬ p.op = 3)
      have f4 := eq_false (fun h => k1 (.inr (.inr (.inr h))) : ¬ p.op = 4)
      simp only [go_sem, reduceIte, Nat.reduceEqDiff, Nat.reduceAdd, Nat.reduceSub, Nat.reduceMul, Nat.reduceLT, Nat.reduceLeDiff, Nat.reducePow, Int.reduceToNat, Int.reduceLT, Int.reduceLE, Int.reduceEq, Int.reduceNe, Int.reduceAdd, Int.reduceSub, Int.reduceMul, Int.reduceNeg, h1, h2, f1, f2, f3, f4]
      generalize hβ : Heap.set _ b1 _ = β0
      have e0 : β0 b0 = some [.int .i64 u.rows, .sl .none (u.l.map Bd.d)] := by rw [← hβ]; simp only [Heap.set, if_neg h2, if_true]
      have e1 : β0 b1 = some p.cells := by rw [← hβ]; simp only [Heap.set, if_true]; rfl
      clear hβ
      refine vwq_loop (fun v => ∃ (j : Nat) (tk5 tk6 tk : Tk), j ≤ p.kids.length ∧ ((tk5 = .full ∧ tk6 = .full ∧ v.ω = []) ∨ ∃ t5 t6, t5 ≠ t6 ∧ tk5 = .live t5 1 ∧ tk6 = .live t6 1 ∧ v.ω = [t6, t5]) ∧ v.σ 2 = .pb b0 0 ∧ v.σ 3 = .pb b1 0 ∧ v.σ 5 = .sl tk5 (((p.kids.take j).map (possT u)).map codeD) ∧ v.σ 6 = .sl tk6 ((((p.kids.take j).map (possT u)).map Tr.turn).map codeD) ∧ v.σ 23 = .sl tk (p.kids.map Pr.d) ∧ v.σ 24 = .int .i64 p.kids.length ∧ v.σ 25 = .int .i64 j ∧ v.β b0 = some [.int .i64 u.rows, .sl .none (u.l.map Bd.d)] ∧ v.β b1 = some p.cells) (fun v => p.kids.length - (ival (v.σ 25)).toNat) ?_ ?_
      · exact ⟨0, .full, .full, _, by omega, .inl ⟨rfl, rfl, rfl⟩, rfl, rfl, rfl, rfl, rfl, by rw [← List.length_map (f := Pr.d)]; rfl, rfl, e0, e1⟩
      clear e0 e1 β0
      rintro σ β ω ⟨j, tk5, tk6, tk, hj, ht, q2, q3, q5, q6, q23, q24, q25, e0, e1⟩
      dsimp only [Pr.cells] at ht q2 q3 q5 q6 q23 q24 q25 e0 e1
      rcases ht with ⟨rfl, rfl, rfl⟩ | ⟨t5, t6, ht, rfl, rfl, rfl⟩
      all_goals simp only [go_sem, reduceIte, Nat.reduceEqDiff, Nat.reduceAdd, Nat.reduceSub, Nat.reduceMul, Nat.reduceLT, Nat.reduceLeDiff, Nat.reducePow, Int.reduceToNat, Int.reduceLT, Int.reduceLE, Int.reduceEq, Int.reduceNe, Int.reduceAdd, Int.reduceSub, Int.reduceMul, Int.reduceNeg, q2, q3, q5, q6, q23, q24, q25, e0, e1]
      all_goals refine cd_dec (fun g => ?_) (fun g => ?_)
      · have g' : (j : Int) < ((p.kids.map Pr.d).length : Nat) := by rw [List.length_map]; exact g
        obtain ⟨x, hx, ex⟩ := Pr_at g'
        simp only [go_sem, reduceIte, Nat.reduceEqDiff, Nat.reduceAdd, Nat.reduceSub, Nat.reduceMul, Nat.reduceLT, Nat.reduceLeDiff, Nat.reducePow, Int.reduceToNat, Int.reduceLT, Int.reduceLE, Int.reduceEq, Int.reduceNe, Int.reduceAdd, Int.reduceSub, Int.reduceMul, Int.reduceNeg, q2, q3, q5, q6, q23, q24, q25, e0, e1, ex]
        refine ⟨by omega, new_any fun b hb => ?_⟩
        have m0 : b0 ≠ b := by rintro rfl; rw [e0] at hb; cases hb
        have m1 : b1 ≠ b := by rintro rfl; rw [e1] at hb; cases hb
        clear hb
        simp only [go_sem, reduceIte, Nat.reduceEqDiff, Nat.reduceAdd, Nat.reduceSub, Nat.reduceMul, Nat.reduceLT, Nat.reduceLeDiff, Nat.reducePow, Int.reduceToNat, Int.reduceLT, Int.reduceLE, Int.reduceEq, Int.reduceNe, Int.reduceAdd, Int.reduceSub, Int.reduceMul, Int.reduceNeg, q2, q3, q5, q6, q23, q24, q25, e0, e1, ex, m0, m1]
        refine cK_vn (ih x (List.mem_of_getElem? hx)) ?_
        simp only [go_sem, reduceIte, Nat.reduceEqDiff, Nat.reduceAdd, Nat.reduceSub, Nat.reduceMul, Nat.reduceLT, Nat.reduceLeDiff, Nat.reducePow, Int.reduceToNat, Int.reduceLT, Int.reduceLE, Int.reduceEq, Int.reduceNe, Int.reduceAdd, Int.reduceSub, Int.reduceMul, Int.reduceNeg, q2, q3, q5, q6, q23, q24, q25, e0, e1, ex, m0, m1]
        refine ⟨codeD_one _, by simp only [List.length_map, List.length_take]; omega, fun t' => cK_vn (turned_ok _) ?_⟩
        simp only [go_sem, reduceIte, Nat.reduceEqDiff, Nat.reduceAdd, Nat.reduceSub, Nat.reduceMul, Nat.reduceLT, Nat.reduceLeDiff, Nat.reducePow, Int.reduceToNat, Int.reduceLT, Int.reduceLE, Int.reduceEq, Int.reduceNe, Int.reduceAdd, Int.reduceSub, Int.reduceMul, Int.reduceNeg, q2, q3, q5, q6, q23, q24, q25, e0, e1, ex, m0, m1]
        refine ⟨codeD_one _, by simp only [List.length_map, List.length_take]; omega, fun t'' hne => ?_⟩
        rw [wrap_i64 (x := (j : Int) + 1) (by omega) (by omega)]
        have ht : p.kids.take (j + 1) = p.kids.take j ++ [x] := by rw [List.take_add_one, hx]; rfl
        refine ⟨⟨j + 1, .live t' 1, .live t'' 1, tk, by omega, .inr ⟨t', t'', fun h => hne h.symm, rfl, rfl, ?_⟩, ?_⟩, by omega⟩
        · rfl
        · rw [ht]
          refine ⟨by simp [codeD], by simp [codeD], rfl, rfl, ?_⟩
          simp [Heap.set, m0, m1, e0, e1, Pr.cells]
      · have hj' : p.kids.take j = p.kids := by rw [List.take_of_length_le (by omega)]
        simp only [go_sem, reduceIte, Nat.reduceEqDiff, Nat.reduceAdd, Nat.reduceSub, Nat.reduceMul, Nat.reduceLT, Nat.reduceLeDiff, Nat.reducePow, Int.reduceToNat, Int.reduceLT, Int.reduceLE, Int.reduceEq, Int.reduceNe, Int.reduceAdd, Int.reduceSub, Int.reduceMul, Int.reduceNeg, q2, q3, q5, q6, q23, q24, q25, e0, e1]
        refine cd_dec (fun k5 => ?_) (fun k5 => ?_)
        · simp only [go_sem, reduceIte, Nat.reduceEqDiff, Nat.reduceAdd, Nat.reduceSub, Nat.reduceMul, Nat.reduceLT, Nat.reduceLeDiff, Nat.reducePow, Int.reduceToNat, Int.reduceLT, Int.reduceLE, Int.reduceEq, Int.reduceNe, Int.reduceAdd, Int.reduceSub, Int.reduceMul, Int.reduceNeg, q2, q3, q5, q6, q23, q24, q25, e0, e1]
          refine cK_vn (both_ok _ _) ?_
          simp only [go_sem, reduceIte, Nat.reduceEqDiff, Nat.reduceAdd, Nat.reduceSub, Nat.reduceMul, Nat.reduceLT, Nat.reduceLeDiff, Nat.reducePow, Int.reduceToNat, Int.reduceLT, Int.reduceLE, Int.reduceEq, Int.reduceNe, Int.reduceAdd, Int.reduceSub, Int.reduceMul, Int.reduceNeg]
          exact finK_drop ⟨by rw [hj', possT_eq, if_neg k0, if_neg k1, if_pos k5]; rfl, rfl, rfl⟩
        · simp only [go_sem, reduceIte, Nat.reduceEqDiff, Nat.reduceAdd, Nat.reduceSub, Nat.reduceMul, Nat.reduceLT, Nat.reduceLeDiff, Nat.reducePow, Int.reduceToNat, Int.reduceLT, Int.reduceLE, Int.reduceEq, Int.reduceNe, Int.reduceAdd, Int.reduceSub, Int.reduceMul, Int.reduceNeg, q2, q3, q5, q6, q23, q24, q25, e0, e1]
          refine cd_dec (fun k6 => ?_) (fun k6 => ?_)
          · simp only [go_sem, reduceIte, Nat.reduceEqDiff, Nat.reduceAdd, Nat.reduceSub, Nat.reduceMul, Nat.reduceLT, Nat.reduceLeDiff, Nat.reducePow, Int.reduceToNat, Int.reduceLT, Int.reduceLE, Int.reduceEq, Int.reduceNe, Int.reduceAdd, Int.reduceSub, Int.reduceMul, Int.reduceNeg, q2, q3, q5, q6, q23, q24, q25, e0, e1]
            refine cK_vn (both_ok _ _) ?_
            simp only [go_sem, reduceIte, Nat.reduceEqDiff, Nat.reduceAdd, Nat.reduceSub, Nat.reduceMul, Nat.reduceLT, Nat.reduceLeDiff, Nat.reducePow, Int.reduceToNat, Int.reduceLT, Int.reduceLE, Int.reduceEq, Int.reduceNe, Int.reduceAdd, Int.reduceSub, Int.reduceMul, Int.reduceNeg]
            refine cK_vn (turned_ok _) ?_
            simp only [go_sem, reduceIte, Nat.reduceEqDiff, Nat.reduceAdd, Nat.reduceSub, Nat.reduceMul, Nat.reduceLT, Nat.reduceLeDiff, Nat.reducePow, Int.reduceToNat, Int.reduceLT, Int.reduceLE, Int.reduceEq, Int.reduceNe, Int.reduceAdd, Int.reduceSub, Int.reduceMul, Int.reduceNeg]
            exact finK_drop ⟨by rw [hj', possT_eq, if_neg k0, if_neg k1, if_neg k5, if_pos k6]; rfl, rfl, rfl⟩
          · simp only [go_sem, reduceIte, Nat.reduceEqDiff, Nat.reduceAdd, Nat.reduceSub, Nat.reduceMul, Nat.reduceLT, Nat.reduceLeDiff, Nat.reducePow, Int.reduceToNat, Int.reduceLT, Int.reduceLE, Int.reduceEq, Int.reduceNe, Int.reduceAdd, Int.reduceSub, Int.reduceMul, Int.reduceNeg, q2, q3, q5, q6, q23, q24, q25, e0, e1]
            have hl1 : ((((p.kids.take j).map (possT u)).map Tr.turn).map codeD).length = p.kids.length := by simp only [List.length_map, hj']
            refine cd_dec (fun k7 => ?_) (fun k7 => ?_)
            · rw [hl1] at k7
              simp only [go_sem, reduceIte, Nat.reduceEqDiff, Nat.reduceAdd, Nat.reduceSub, Nat.reduceMul, Nat.reduceLT, Nat.reduceLeDiff, Nat.reducePow, Int.reduceToNat, Int.reduceLT, Int.reduceLE, Int.reduceEq, Int.reduceNe, Int.reduceAdd, Int.reduceSub, Int.reduceMul, Int.reduceNeg, q2, q3, q5, q6, q23, q24, q25, e0, e1]
              obtain ⟨x, hx⟩ : ∃ x, p.kids = [x] := List.length_eq_one_iff.1 (by omega)
              have ep : possT u p = (possT u x).turn := by
                rw [possT_eq, if_neg k0, if_neg k1, if_neg k5, if_neg k6, if_pos ⟨k7.1, by omega⟩, hx]; rfl
              rw [hj', ep, hx]
              exact ⟨⟨by simp, rfl⟩, by simp [D.cells, codeD], finK_drop ⟨rfl, rfl, rfl⟩⟩
            · rw [hl1] at k7
              simp only [go_sem, reduceIte, Nat.reduceEqDiff, Nat.reduceAdd, Nat.reduceSub, Nat.reduceMul, Nat.reduceLT, Nat.reduceLeDiff, Nat.reducePow, Int.reduceToNat, Int.reduceLT, Int.reduceLE, Int.reduceEq, Int.reduceNe, Int.reduceAdd, Int.reduceSub, Int.reduceMul, Int.reduceNeg, q2, q3, q5, q6, q23, q24, q25, e0, e1]
              exact finK_drop ⟨by rw [possT_eq, if_neg k0, if_neg k1, if_neg k5, if_neg k6, if_neg (by omega)]; rfl, rfl, rfl⟩
      · have g' : (j : Int) < ((p.kids.map Pr.d).length : Nat) := by rw [List.length_map]; exact g
        obtain ⟨x, hx, ex⟩ := Pr_at g'
        simp only [go_sem, reduceIte, Nat.reduceEqDiff, Nat.reduceAdd, Nat.reduceSub, Nat.reduceMul, Nat.reduceLT, Nat.reduceLeDiff, Nat.reducePow, Int.reduceToNat, Int.reduceLT, Int.reduceLE, Int.reduceEq, Int.reduceNe, Int.reduceAdd, Int.reduceSub, Int.reduceMul, Int.reduceNeg, q2, q3, q5, q6, q23, q24, q25, e0, e1, ex]
        refine ⟨by omega, new_any fun b hb => ?_⟩
        have m0 : b0 ≠ b := by rintro rfl; rw [e0] at hb; cases hb
        have m1 : b1 ≠ b := by rintro rfl; rw [e1] at hb; cases hb
        clear hb
        simp only [go_sem, reduceIte, Nat.reduceEqDiff, Nat.reduceAdd, Nat.reduceSub, Nat.reduceMul, Nat.reduceLT, Nat.reduceLeDiff, Nat.reducePow, Int.reduceToNat, Int.reduceLT, Int.reduceLE, Int.reduceEq, Int.reduceNe, Int.reduceAdd, Int.reduceSub, Int.reduceMul, Int.reduceNeg, q2, q3, q5, q6, q23, q24, q25, e0, e1, ex, m0, m1]
        refine cK_vn (ih x (List.mem_of_getElem? hx)) ?_
        simp only [go_sem, reduceIte, Nat.reduceEqDiff, Nat.reduceAdd, Nat.reduceSub, Nat.reduceMul, Nat.reduceLT, Nat.reduceLeDiff, Nat.reducePow, Int.reduceToNat, Int.reduceLT, Int.reduceLE, Int.reduceEq, Int.reduceNe, Int.reduceAdd, Int.reduceSub, Int.reduceMul, Int.reduceNeg, q2, q3, q5, q6, q23, q24, q25, e0, e1, ex, m0, m1]
        refine ⟨by simp, codeD_one _, by simp only [List.length_map, List.length_take]; omega, fun t' hn' => ?_⟩
        have eg : tokGone [t6, t5] (.live t5 1) = [t6] := by simp [tokGone, ht, Ne.symm ht]
        rw [eg]
        refine cK_vn (turned_ok _) ?_
        have n6 : t' ≠ t6 := fun h => hn' (by simp [h])
        simp only [go_sem, reduceIte, Nat.reduceEqDiff, Nat.reduceAdd, Nat.reduceSub, Nat.reduceMul, Nat.reduceLT, Nat.reduceLeDiff, Nat.reducePow, Int.reduceToNat, Int.reduceLT, Int.reduceLE, Int.reduceEq, Int.reduceNe, Int.reduceAdd, Int.reduceSub, Int.reduceMul, Int.reduceNeg, q2, q3, q5, q6, q23, q24, q25, e0, e1, ex, m0, m1]
        refine ⟨by simp, codeD_one _, by simp only [List.length_map, List.length_take]; omega, fun t'' hn'' => ?_⟩
        have eg2 : tokGone [t', t6] (.live t6 1) = [t'] := by simp [tokGone, n6, Ne.symm n6]
        rw [eg2]
        rw [wrap_i64 (x := (j : Int) + 1) (by omega) (by omega)]
        have htk : p.kids.take (j + 1) = p.kids.take j ++ [x] := by rw [List.take_add_one, hx]; rfl
        refine ⟨⟨j + 1, .live t' 1, .live t'' 1, tk, by omega, .inr ⟨t', t'', fun h => hn'' (by simp [h]), rfl, rfl, rfl⟩, ?_⟩, by omega⟩
        rw [htk]
        refine ⟨by simp [codeD], by simp [codeD], rfl, rfl, ?_⟩
        simp [Heap.set, m0, m1, e0, e1, Pr.cells]
      · have hj' : p.kids.take j = p.kids := by rw [List.take_of_length_le (by omega)]
        simp only [go_sem, reduceIte, Nat.reduceEqDiff, Nat.reduceAdd, Nat.reduceSub, Nat.reduceMul, Nat.reduceLT, Nat.reduceLeDiff, Nat.reducePow, Int.reduceToNat, Int.reduceLT, Int.reduceLE, Int.reduceEq, Int.reduceNe, Int.reduceAdd, Int.reduceSub, Int.reduceMul, Int.reduceNeg, q2, q3, q5, q6, q23, q24, q25, e0, e1]
        refine cd_dec (fun k5 => ?_) (fun k5 => ?_)
        · simp only [go_sem, reduceIte, Nat.reduceEqDiff, Nat.reduceAdd, Nat.reduceSub, Nat.reduceMul, Nat.reduceLT, Nat.reduceLeDiff, Nat.reducePow, Int.reduceToNat, Int.reduceLT, Int.reduceLE, Int.reduceEq, Int.reduceNe, Int.reduceAdd, Int.reduceSub, Int.reduceMul, Int.reduceNeg, q2, q3, q5, q6, q23, q24, q25, e0, e1]
          refine cK_vn (both_ok _ _) ?_
          simp only [go_sem, reduceIte, Nat.reduceEqDiff, Nat.reduceAdd, Nat.reduceSub, Nat.reduceMul, Nat.reduceLT, Nat.reduceLeDiff, Nat.reducePow, Int.reduceToNat, Int.reduceLT, Int.reduceLE, Int.reduceEq, Int.reduceNe, Int.reduceAdd, Int.reduceSub, Int.reduceMul, Int.reduceNeg]
          exact finK_drop ⟨by rw [hj', possT_eq, if_neg k0, if_neg k1, if_pos k5]; rfl, rfl, rfl⟩
        · simp only [go_sem, reduceIte, Nat.reduceEqDiff, Nat.reduceAdd, Nat.reduceSub, Nat.reduceMul, Nat.reduceLT, Nat.reduceLeDiff, Nat.reducePow, Int.reduceToNat, Int.reduceLT, Int.reduceLE, Int.reduceEq, Int.reduceNe, Int.reduceAdd, Int.reduceSub, Int.reduceMul, Int.reduceNeg, q2, q3, q5, q6, q23, q24, q25, e0, e1]
          refine cd_dec (fun k6 => ?_) (fun k6 => ?_)
          · simp only [go_sem, reduceIte, Nat.reduceEqDiff, Nat.reduceAdd, Nat.reduceSub, Nat.reduceMul, Nat.reduceLT, Nat.reduceLeDiff, Nat.reducePow, Int.reduceToNat, Int.reduceLT, Int.reduceLE, Int.reduceEq, Int.reduceNe, Int.reduceAdd, Int.reduceSub, Int.reduceMul, Int.reduceNeg, q2, q3, q5, q6, q23, q24, q25, e0, e1]
            refine cK_vn (both_ok _ _) ?_
            simp only [go_sem, reduceIte, Nat.reduceEqDiff, Nat.reduceAdd, Nat.reduceSub, Nat.reduceMul, Nat.reduceLT, Nat.reduceLeDiff, Nat.reducePow, Int.reduceToNat, Int.reduceLT, Int.reduceLE, Int.reduceEq, Int.reduceNe, Int.reduceAdd, Int.reduceSub, Int.reduceMul, Int.reduceNeg]
            refine cK_vn (turned_ok _) ?_
            simp only [go_sem, reduceIte, Nat.reduceEqDiff, Nat.reduceAdd, Nat.reduceSub, Nat.reduceMul, Nat.reduceLT, Nat.reduceLeDiff, Nat.reducePow, Int.reduceToNat, Int.reduceLT, Int.reduceLE, Int.reduceEq, Int.reduceNe, Int.reduceAdd, Int.reduceSub, Int.reduceMul, Int.reduceNeg]
            exact finK_drop ⟨by rw [hj', possT_eq, if_neg k0, if_neg k1, if_neg k5, if_pos k6]; rfl, rfl, rfl⟩
          · simp only [go_sem, reduceIte, Nat.reduceEqDiff, Nat.reduceAdd, Nat.reduceSub, Nat.reduceMul, Nat.reduceLT, Nat.reduceLeDiff, Nat.reducePow, Int.reduceToNat, Int.reduceLT, Int.reduceLE, Int.reduceEq, Int.reduceNe, Int.reduceAdd, Int.reduceSub, Int.reduceMul, Int.reduceNeg, q2, q3, q5, q6, q23, q24, q25, e0, e1]
            have hl1 : ((((p.kids.take j).map (possT u)).map Tr.turn).map codeD).length = p.kids.length := by simp only [List.length_map, hj']
            refine cd_dec (fun k7 => ?_) (fun k7 => ?_)
            · rw [hl1] at k7
              simp only [go_sem, reduceIte, Nat.reduceEqDiff, Nat.reduceAdd, Nat.reduceSub, Nat.reduceMul, Nat.reduceLT, Nat.reduceLeDiff, Nat.reducePow, Int.reduceToNat, Int.reduceLT, Int.reduceLE, Int.reduceEq, Int.reduceNe, Int.reduceAdd, Int.reduceSub, Int.reduceMul, Int.reduceNeg, q2, q3, q5, q6, q23, q24, q25, e0, e1]
              obtain ⟨x, hx⟩ : ∃ x, p.kids = [x] := List.length_eq_one_iff.1 (by omega)
              have ep : possT u p = (possT u x).turn := by
                rw [possT_eq, if_neg k0, if_neg k1, if_neg k5, if_neg k6, if_pos ⟨k7.1, by omega⟩, hx]; rfl
              rw [hj', ep, hx]
              exact ⟨⟨by simp, rfl⟩, by simp [D.cells, codeD], finK_drop ⟨rfl, rfl, rfl⟩⟩
            · rw [hl1] at k7
              simp only [go_sem, reduceIte, Nat.reduceEqDiff, Nat.reduceAdd, Nat.reduceSub, Nat.reduceMul, Nat.reduceLT, Nat.reduceLeDiff, Nat.reducePow, Int.reduceToNat, Int.reduceLT, Int.reduceLE, Int.reduceEq, Int.reduceNe, Int.reduceAdd, Int.reduceSub, Int.reduceMul, Int.reduceNeg, q2, q3, q5, q6, q23, q24, q25, e0, e1]
              exact finK_drop ⟨by rw [possT_eq, if_neg k0, if_neg k1, if_neg k5, if_neg k6, if_neg (by omega)]; rfl, rfl, rfl⟩theorem possible_ok (u : Sm) : ∀ (n : Nat) (p : Pr), SizeOf.sizeOf p ≤ n → p.Lim → VN P G 40 [.agg u.cells, .agg p.cells] (.int .i64 (possT u p).code)
  | 0, p, h, _ => by cases p; simp at h
  | n + 1, p, hn, hL => by
    obtain ⟨_, z3, hk⟩ := hL
    exact possible_step u p z3 fun k hk' => possible_ok u n k (Nat.le_of_lt_succ (Nat.lt_of_lt_of_le (Pr.kid_lt (p := p) hk') hn)) (hk k hk')
end Go.Proofs.YtnoenipdooackaaGreatDoorS
namespace Go.Proofs.YtnoenipdooackaaGreatDoorS
open Go Go.Proofs.YtnoenipdooackaaGreatDoorV

variable {G : Heap}
attribute [local irreducible] VN VC VX VQ

theorem cmpB_anti : ∀ x y : List UInt8, (0 ≤ Lib.compareBytes x y ↔ Lib.compareBytes y x ≤ 0) := fun x y => by
  have h1 := compareBytes_lt x y
  have h2 := compareBytes_lt y x
  constructor
  · intro h
    rcases Int.lt_trichotomy (Lib.compareBytes y x) 0 with g | g | g
    · omega
    · omega
    · have := h1.1.2 (h2.2.1.1 g); omega
  · intro h
    rcases Int.lt_trichotomy (Lib.compareBytes x y) 0 with g | g | g
    · have := h2.2.1.2 (h1.1.1 g); omega
    · omega
    · omega
theorem cmpV_anti (a b : Vl) : (0 ≤ cmpV a b ↔ cmpV b a ≤ 0) := by
  obtain ⟨an, ai, as_⟩ := a
  obtain ⟨bn, bi, bs_⟩ := b
  have := cmpB_anti as_.data.toList bs_.data.toList
  simp only [cmpV, cmpN, cmpS]
  cases an <;> cases bn <;> simp
  all_goals repeat' split
  all_goals first | omega | simp_all
theorem innR_eq (b : Bd) (p : Pr) (hb : b.min.null = false) : innR b p = ((inn b p).y, (inn b p).n) := by
  have key : ∀ (l : List Vl) (t : Bool × Bool), l.foldl (innR1 b) t = (t.1 || l.any (inside b), t.2 && !(decide (b.min = b.max) && l.any fun x => decide (b.min = x))) := by
    intro l
    induction l with
    | nil => intro t; simp
    | cons e l ih =>
      intro t
      rw [List.foldl_cons, ih]
      have hd : (decide (e = b.min) && decide (e = b.max)) = (decide (b.min = b.max) && decide (b.min = e)) := by
        by_cases g : b.min = e
        · subst g; simp
        · have g' : ¬ e = b.min := fun x => g x.symm
          simp [g, g']
      cases hn : e.null with
      | true =>
        have g : ¬ b.min = e := fun x => by rw [x, hn] at hb; cases hb
        simp [innR1, hn, inside, g]
      | false =>
        simp only [innR1, hn, inside, List.any_cons, hd, cmpV_anti, Bool.false_eq_true, if_false, Bool.not_false, Bool.true_and]
        cases decide (b.min = b.max) <;> cases decide (b.min = e) <;> simp [Bool.or_assoc]
  rw [innR, key]
  simp [inn]
def Tr.cells (t : Tr) : List D := [.bool t.y, .bool t.n, .bool t.u]
end Go.Proofs.YtnoenipdooackaaGreatDoorS
namespace Go.Proofs.YtnoenipdooackaaGreatDoorS
open Go Go.Proofs.YtnoenipdooackaaGreatDoorV

variable {G : Heap}
attribute [local irreducible] VN VC VX VQ

def ufd (P : Program) (t : TypeId) (f : Nat) : Option (TypeId × Nat) := match P.underlying t with
  | some (.struct fs) => (fs[f]?).map fun fd => (fd.type, fd.offset)
  | _ => none
theorem vfield_ufd {P : Program} {t : TypeId} {f : Nat} {ft : TypeId} {off : Nat} (h : ufd P t f = some (ft, off)) (cs : List D) : vfield P t f (.agg cs) = vload P ft cs off := by
  unfold ufd at h
  unfold vfield
  split at h
  · rename_i fs hu
    rw [hu]
    simp only
    cases hf : fs[f]? with
    | none => rw [hf] at h; cases h
    | some fd => rw [hf] at h; cases h; rfl
  · cases h
theorem set_none {β : Heap} {a b : Nat} {cs : List D} : ((β.set a cs) b = none) = ((a ≠ b ∧ b ≠ a) ∧ β b = none) := by
  unfold Heap.set
  by_cases h : b = a
  · simp [h]
  · simp [h, Ne.symm h]
theorem box_ne {β : Heap} {a b : Nat} {x : List D} (h : β b = none) (e : β a = some x) : a ≠ b ∧ b ≠ a := by
  constructor <;> (rintro rfl; rw [e] at h; cases h)

def trD (t : Tr) : D := .agg t.cells
def trDs (u : Sm) (l : List Pr) : List Tr := l.map (possT u)
def mayT (u : Sm) (p : Pr) : Bool := decide (0 < u.rows) && (possT u p).y
def mustT (u : Sm) (p : Pr) : Bool := decide (u.rows ≤ 0) || decide (possT u p = ⟨true, false, false⟩)
theorem code_yes (t : Tr) : (t.code = 2) = (t = ⟨true, false, false⟩) := by
  obtain ⟨a, b, c⟩ := t; cases a <;> cases b <;> cases c <;> simp [Tr.code]
theorem May_ok (u : Sm) (p : Pr) (hL : p.Lim) : VN P G 12 [.agg u.cells, .agg p.cells] (.bool (mayT u p)) := by
  have h0 := possible_ok (G := G) u _ p (Nat.le_refl _) hL
  simp only [Sm.cells, Pr.cells] at h0 ⊢
  unfold VN
  refine VC.ofs (fun | 99999999 => [(0, [0, 1, 2, 3, 4])] | _ => []) [4] mixed Tryz.func12 rfl rfl rfl rfl (by decide +kernel) (by simp) ?_
  simp only [go_sem, reduceIte, Nat.reduceEqDiff, Nat.reduceAdd, Nat.reduceSub, Nat.reduceMul, Nat.reduceLT, Nat.reduceLeDiff, Nat.reducePow, Int.reduceToNat, Int.reduceLT, Int.reduceLE, Int.reduceEq, Int.reduceNe, Int.reduceAdd, Int.reduceSub, Int.reduceMul, Int.reduceNeg]
  intro b0
  refine new_1 fun b1 h1 h2 => ?_
  simp only [go_sem, reduceIte, Nat.reduceEqDiff, Nat.reduceAdd, Nat.reduceSub, Nat.reduceMul, Nat.reduceLT, Nat.reduceLeDiff, Nat.reducePow, Int.reduceToNat, Int.reduceLT, Int.reduceLE, Int.reduceEq, Int.reduceNe, Int.reduceAdd, Int.reduceSub, Int.reduceMul, Int.reduceNeg, h1, h2]
  by_cases g : 0 < u.rows
  all_goals simp only [go_sem, reduceIte, Nat.reduceEqDiff, Nat.reduceAdd, Nat.reduceSub, Nat.reduceMul, Nat.reduceLT, Nat.reduceLeDiff, Nat.reducePow, Int.reduceToNat, Int.reduceLT, Int.reduceLE, Int.reduceEq, Int.reduceNe, Int.reduceAdd, Int.reduceSub, Int.reduceMul, Int.reduceNeg, h1, h2, g]
  all_goals repeat' (first | refine cK_vn h0 ?_ | simp only [go_sem, reduceIte, Nat.reduceEqDiff, Nat.reduceAdd, Nat.reduceSub, Nat.reduceMul, Nat.reduceLT, Nat.reduceLeDiff, Nat.reducePow, Int.reduceToNat, Int.reduceLT, Int.reduceLE, Int.reduceEq, Int.reduceNe, Int.reduceAdd, Int.reduceSub, Int.reduceMul, Int.reduceNeg, h1, h2, g, and_y])
  all_goals exact finK_drop ⟨by simp [mayT, mustT, g, D.er, D.er1], rfl, rfl⟩
theorem Must_ok (u : Sm) (p : Pr) (hL : p.Lim) : VN P G 13 [.agg u.cells, .agg p.cells] (.bool (mustT u p)) := by
  have h0 := possible_ok (G := G) u _ p (Nat.le_refl _) hL
  simp only [Sm.cells, Pr.cells] at h0 ⊢
  unfold VN
  refine VC.ofs (fun | 99999999 => [(0, [0, 1, 2, 3, 4])] | _ => []) [4] mixed Tryz.func13 rfl rfl rfl rfl (by decide +kernel) (by simp) ?_
  simp only [go_sem, reduceIte, Nat.reduceEqDiff, Nat.reduceAdd, Nat.reduceSub, Nat.reduceMul, Nat.reduceLT, Nat.reduceLeDiff, Nat.reducePow, Int.reduceToNat, Int.reduceLT, Int.reduceLE, Int.reduceEq, Int.reduceNe, Int.reduceAdd, Int.reduceSub, Int.reduceMul, Int.reduceNeg]
  intro b0
  refine new_1 fun b1 h1 h2 => ?_
  simp only [go_sem, reduceIte, Nat.reduceEqDiff, Nat.reduceAdd, Nat.reduceSub, Nat.reduceMul, Nat.reduceLT, Nat.reduceLeDiff, Nat.reducePow, Int.reduceToNat, Int.reduceLT, Int.reduceLE, Int.reduceEq, Int.reduceNe, Int.reduceAdd, Int.reduceSub, Int.reduceMul, Int.reduceNeg, h1, h2]
  by_cases g : u.rows ≤ 0
  all_goals simp only [go_sem, reduceIte, Nat.reduceEqDiff, Nat.reduceAdd, Nat.reduceSub, Nat.reduceMul, Nat.reduceLT, Nat.reduceLeDiff, Nat.reducePow, Int.reduceToNat, Int.reduceLT, Int.reduceLE, Int.reduceEq, Int.reduceNe, Int.reduceAdd, Int.reduceSub, Int.reduceMul, Int.reduceNeg, h1, h2, g]
  all_goals repeat' (first | refine cK_vn h0 ?_ | simp only [go_sem, reduceIte, Nat.reduceEqDiff, Nat.reduceAdd, Nat.reduceSub, Nat.reduceMul, Nat.reduceLT, Nat.reduceLeDiff, Nat.reducePow, Int.reduceToNat, Int.reduceLT, Int.reduceLE, Int.reduceEq, Int.reduceNe, Int.reduceAdd, Int.reduceSub, Int.reduceMul, Int.reduceNeg, h1, h2, g, code_yes])
  all_goals exact finK_drop ⟨by simp [mayT, mustT, g, D.er, D.er1], rfl, rfl⟩
end Go.Proofs.YtnoenipdooackaaGreatDoorS
namespace Go.Proofs.YtnoenipdooackaaGreatDoorS
open Go Go.Proofs.YtnoenipdooackaaGreatDoorV

variable {G : Heap}
attribute [local irreducible] VN VC VX VQ

def Vl.nul : Vl := ⟨true, 0, ByteArray.empty⟩
def nullC : List D := [.bool true, .int .i64 0, .str ByteArray.empty]
abbrev Cl := Int × Vl
def clD (c : Cl) : D := .agg [.int .i64 c.1, .bool c.2.null, .int .i64 c.2.n, .str c.2.s]
def intD (i : Int) : D := .int .i64 i

theorem mkbetween_ok (id lo hi : Int) : VN P G 17 [.int .i64 id, .int .i64 lo, .int .i64 hi] (.agg (Pr.mk 1 id lo hi [] ByteArray.empty []).cells) := by
  unfold VN
  refine VC.ofc (fun | 99999999 => [(0, [0, 1, 2, 6])] | _ => []) [.cell 6 29] mixed Tryz.func17 rfl rfl rfl rfl (by decide +kernel) (by simp) ?_
  simp only [go_sem, reduceIte, Nat.reduceEqDiff, Nat.reduceAdd, Nat.reduceSub, Nat.reduceMul, Nat.reduceLT, Nat.reduceLeDiff, Nat.reducePow, Int.reduceToNat, Int.reduceLT, Int.reduceLE, Int.reduceEq, Int.reduceNe, Int.reduceAdd, Int.reduceSub, Int.reduceMul, Int.reduceNeg]
  intro b0
  exact finK_drop ⟨rfl, rfl, rfl⟩
theorem mknull_ok (id : Int) : VN P G 18 [.int .i64 id] (.agg (Pr.mk 4 id 0 0 [] ByteArray.empty []).cells) := by
  unfold VN
  refine VC.ofc (fun | 99999999 => [(0, [0, 2])] | _ => []) [.cell 2 29] mixed Tryz.func18 rfl rfl rfl rfl (by decide +kernel) (by simp) ?_
  simp only [go_sem, reduceIte, Nat.reduceEqDiff, Nat.reduceAdd, Nat.reduceSub, Nat.reduceMul, Nat.reduceLT, Nat.reduceLeDiff, Nat.reducePow, Int.reduceToNat, Int.reduceLT, Int.reduceLE, Int.reduceEq, Int.reduceNe, Int.reduceAdd, Int.reduceSub, Int.reduceMul, Int.reduceNeg]
  intro b0
  exact finK_drop ⟨rfl, rfl, rfl⟩
theorem mknot_ok (p : Pr) : VN P G 14 [.agg p.cells] (.agg (Pr.mk 7 0 0 0 [] ByteArray.empty [p]).cells) := by
  simp only [Pr.cells, Pr.kids, List.map_cons, List.map_nil]
  rw [Pr.d_eq]
  simp only [Pr.cells]
  unfold VN
  refine VC.ofc (fun | 99999999 => [(0, [0, 1, 2])] | _ => []) [.cell 2 29] mixed Tryz.func14 rfl rfl rfl rfl (by decide +kernel) (by simp) ?_
  simp only [go_sem, reduceIte, Nat.reduceEqDiff, Nat.reduceAdd, Nat.reduceSub, Nat.reduceMul, Nat.reduceLT, Nat.reduceLeDiff, Nat.reducePow, Int.reduceToNat, Int.reduceLT, Int.reduceLE, Int.reduceEq, Int.reduceNe, Int.reduceAdd, Int.reduceSub, Int.reduceMul, Int.reduceNeg]
  intro b0
  refine new_1 fun b1 h1 h2 => ?_
  simp only [go_sem, reduceIte, Nat.reduceEqDiff, Nat.reduceAdd, Nat.reduceSub, Nat.reduceMul, Nat.reduceLT, Nat.reduceLeDiff, Nat.reducePow, Int.reduceToNat, Int.reduceLT, Int.reduceLE, Int.reduceEq, Int.reduceNe, Int.reduceAdd, Int.reduceSub, Int.reduceMul, Int.reduceNeg, h1, h2]
  exact finK_drop ⟨rfl, rfl, rfl⟩
theorem mkrow_ok (n : Int) : VN P G 16 [.int .i64 n] (.agg [.sl .none ([((1 : Int), (⟨false, n, ByteArray.empty⟩ : Vl))].map clD)]) := by
  unfold VN
  refine VC.ofc (fun | 99999999 => [(0, [0, 2])] | _ => []) [.cell 2 54] mixed Tryz.func16 rfl rfl rfl rfl (by decide +kernel) (by simp) ?_
  simp only [go_sem, reduceIte, Nat.reduceEqDiff, Nat.reduceAdd, Nat.reduceSub, Nat.reduceMul, Nat.reduceLT, Nat.reduceLeDiff, Nat.reducePow, Int.reduceToNat, Int.reduceLT, Int.reduceLE, Int.reduceEq, Int.reduceNe, Int.reduceAdd, Int.reduceSub, Int.reduceMul, Int.reduceNeg]
  intro b0
  exact finK_drop ⟨rfl, rfl, rfl⟩
def lesserV (a b : Vl) : Vl := if a.null = true ∨ (b.null = false ∧ cmpV b a < 0) then b else a
def greaterV (a b : Vl) : Vl := if a.null = true ∨ (b.null = false ∧ 0 < cmpV b a) then b else a
theorem lesser_ok (a b : Vl) : VN P G 29 [.agg a.cells, .agg b.cells] (.agg (lesserV a b).cells) := by
  have hc := Compare_ok (G := G) b a
  obtain ⟨an, ai, as_⟩ := a
  obtain ⟨bn, bi, bs_⟩ := b
  simp only [Vl.cells, Vl.d] at hc ⊢
  unfold VN
  refine VC.ofc (fun | 99999999 => [(0, [0, 1, 2, 3, 4, 17])] | _ => []) [.cell 4 60] mixed Tryz.func29 rfl rfl rfl rfl (by decide +kernel) (by simp) ?_
  cases an <;> cases bn
  all_goals simp only [go_sem, reduceIte, Nat.reduceEqDiff, Nat.reduceAdd, Nat.reduceSub, Nat.reduceMul, Nat.reduceLT, Nat.reduceLeDiff, Nat.reducePow, Int.reduceToNat, Int.reduceLT, Int.reduceLE, Int.reduceEq, Int.reduceNe, Int.reduceAdd, Int.reduceSub, Int.reduceMul, Int.reduceNeg]
  all_goals intro b0
  all_goals refine new_1 fun b1 h1 h2 => ?_
  all_goals refine new_2 fun b2 h3 h4 h5 => ?_
  all_goals repeat' (first | refine cd_dec (fun _ => ?_) (fun _ => ?_) | refine cK_vn hc ?_ | simp only [go_sem, reduceIte, Nat.reduceEqDiff, Nat.reduceAdd, Nat.reduceSub, Nat.reduceMul, Nat.reduceLT, Nat.reduceLeDiff, Nat.reducePow, Int.reduceToNat, Int.reduceLT, Int.reduceLE, Int.reduceEq, Int.reduceNe, Int.reduceAdd, Int.reduceSub, Int.reduceMul, Int.reduceNeg, h1, h2, h3, h4, h5])
  all_goals refine finK_drop ⟨?_, rfl, rfl⟩
  all_goals simp_all [lesserV, D.er, D.er1]
  rw [if_neg (by omega)]; simp
theorem greater_ok (a b : Vl) : VN P G 30 [.agg a.cells, .agg b.cells] (.agg (greaterV a b).cells) := by
  have hc := Compare_ok (G := G) b a
  obtain ⟨an, ai, as_⟩ := a
  obtain ⟨bn, bi, bs_⟩ := b
  simp only [Vl.cells, Vl.d] at hc ⊢
  unfold VN
  refine VC.ofc (fun | 99999999 => [(0, [0, 1, 2, 3, 4, 17])] | _ => []) [.cell 4 60] mixed Tryz.func30 rfl rfl rfl rfl (by decide +kernel) (by simp) ?_
  cases an <;> cases bn
  all_goals simp only [go_sem, reduceIte, Nat.reduceEqDiff, Nat.reduceAdd, Nat.reduceSub, Nat.reduceMul, Nat.reduceLT, Nat.reduceLeDiff, Nat.reducePow, Int.reduceToNat, Int.reduceLT, Int.reduceLE, Int.reduceEq, Int.reduceNe, Int.reduceAdd, Int.reduceSub, Int.reduceMul, Int.reduceNeg]
  all_goals intro b0
  all_goals refine new_1 fun b1 h1 h2 => ?_
  all_goals refine new_2 fun b2 h3 h4 h5 => ?_
  all_goals repeat' (first | refine cd_dec (fun _ => ?_) (fun _ => ?_) | refine cK_vn hc ?_ | simp only [go_sem, reduceIte, Nat.reduceEqDiff, Nat.reduceAdd, Nat.reduceSub, Nat.reduceMul, Nat.reduceLT, Nat.reduceLeDiff, Nat.reducePow, Int.reduceToNat, Int.reduceLT, Int.reduceLE, Int.reduceEq, Int.reduceNe, Int.reduceAdd, Int.reduceSub, Int.reduceMul, Int.reduceNeg, h1, h2, h3, h4, h5])
  all_goals refine finK_drop ⟨?_, rfl, rfl⟩
  all_goals simp_all [greaterV, D.er, D.er1]
  rw [if_neg (by omega)]; simp
/-- The value of a field in a row. -/
def getV (r : List Cl) (id : Int) : Vl := match r with
  | [] => Vl.nul
  | c :: l => if c.1 = id then (if c.2.null = true then Vl.nul else c.2) else getV l id
theorem Cl_at {l : List Cl} {j : Nat} (h : j < l.length) : ∃ c, l[j]? = some c ∧ (l.map clD).getD j .any = .agg [.int .i64 c.1, .bool c.2.null, .int .i64 c.2.n, .str c.2.s] := at_map h
theorem drop_at {α : Type} {l : List α} {j : Nat} {x : α} (hx : l[j]? = some x) : l.drop j = x :: l.drop (j + 1) := by
  obtain ⟨h1, h2⟩ := List.getElem?_eq_some_iff.1 hx
  rw [List.drop_eq_getElem_cons h1, h2]
theorem get_ok (hG : G 0 = some nullC) (r : List Cl) (id : Int) : VN P G 28 [.agg [.sl .none (r.map clD)], .int .i64 id] (.agg (getV r id).cells) := by
  unfold VN
  refine VC.small2 fun hsm => ?_
  have z1 := hsm (.agg [.sl .none (r.map clD)]) (List.mem_cons_self ..) (.sl .none (r.map clD)) (by simp [D.cells])
  simp only [Small, mostLen, List.length_map] at z1
  clear hsm
  refine VC.ofc (fun | 99999999 => [(0, [0, 1, 2, 4, 6, 8, 9, 10, 11, 17, 20])] | _ => []) [.cell 4 60] mixed Tryz.func28 rfl rfl rfl rfl (by decide +kernel) (by simp) ?_
  simp only [go_sem, reduceIte, Nat.reduceEqDiff, Nat.reduceAdd, Nat.reduceSub, Nat.reduceMul, Nat.reduceLT, Nat.reduceLeDiff, Nat.reducePow, Int.reduceToNat, Int.reduceLT, Int.reduceLE, Int.reduceEq, Int.reduceNe, Int.reduceAdd, Int.reduceSub, Int.reduceMul, Int.reduceNeg]
  intro b0
  refine new_1 fun b1 h1 h2 => ?_
  simp only [go_sem, reduceIte, Nat.reduceEqDiff, Nat.reduceAdd, Nat.reduceSub, Nat.reduceMul, Nat.reduceLT, Nat.reduceLeDiff, Nat.reducePow, Int.reduceToNat, Int.reduceLT, Int.reduceLE, Int.reduceEq, Int.reduceNe, Int.reduceAdd, Int.reduceSub, Int.reduceMul, Int.reduceNeg, h1, h2]
  generalize hβ : Heap.set _ b1 _ = β0
  have e1 : β0 b1 = some [.bool false, .int .i64 0, .str ByteArray.empty] := by rw [← hβ]; simp [Heap.set]
  clear hβ
  refine vwq_loop (fun v => ∃ (j : Nat), j ≤ r.length ∧ getV (r.drop j) id = getV r id ∧ v.σ 1 = .int .i64 id ∧ v.σ 4 = .pb b1 0 ∧ v.σ 8 = .sl .none (r.map clD) ∧ v.σ 9 = .int .i64 r.length ∧ v.σ 10 = .int .i64 j ∧ v.β b1 = some [.bool false, .int .i64 0, .str ByteArray.empty] ∧ v.ω = []) (fun v => r.length - (ival (v.σ 10)).toNat) ?_ ?_
  · exact ⟨0, by omega, rfl, rfl, rfl, rfl, by rw [← List.length_map (f := clD)]; rfl, rfl, e1, rfl⟩
  clear e1 β0
  rintro σ β ω ⟨j, j1, j2, q1, q4, q8, q9, q10, e1, rfl⟩
  dsimp only at q1 q4 q8 q9 q10 e1
  simp only [go_sem, reduceIte, Nat.reduceEqDiff, Nat.reduceAdd, Nat.reduceSub, Nat.reduceMul, Nat.reduceLT, Nat.reduceLeDiff, Nat.reducePow, Int.reduceToNat, Int.reduceLT, Int.reduceLE, Int.reduceEq, Int.reduceNe, Int.reduceAdd, Int.reduceSub, Int.reduceMul, Int.reduceNeg, q1, q4, q8, q9, q10, e1]
  refine cd_dec (fun g => ?_) (fun g => ?_)
  · obtain ⟨x, hx, ex⟩ := Cl_at (l := r) (j := j) (by omega)
    rw [drop_at hx, getV] at j2
    simp only [go_sem, reduceIte, Nat.reduceEqDiff, Nat.reduceAdd, Nat.reduceSub, Nat.reduceMul, Nat.reduceLT, Nat.reduceLeDiff, Nat.reducePow, Int.reduceToNat, Int.reduceLT, Int.reduceLE, Int.reduceEq, Int.reduceNe, Int.reduceAdd, Int.reduceSub, Int.reduceMul, Int.reduceNeg, q1, q4, q8, q9, q10, e1, ex]
    refine ⟨by rw [List.length_map]; omega, new_any fun b hb => ?_⟩
    have m1 := box_ne hb e1
    clear hb
    have wj := wrap_i64 (x := (j : Int) + 1) (by omega) (by omega)
    repeat' (first | refine cd_dec (fun _ => ?_) (fun _ => ?_) | refine cd_b (fun _ => ?_) (fun _ => ?_) | simp only [go_sem, reduceIte, Nat.reduceEqDiff, Nat.reduceAdd, Nat.reduceSub, Nat.reduceMul, Nat.reduceLT, Nat.reduceLeDiff, Nat.reducePow, Int.reduceToNat, Int.reduceLT, Int.reduceLE, Int.reduceEq, Int.reduceNe, Int.reduceAdd, Int.reduceSub, Int.reduceMul, Int.reduceNeg, q1, q4, q8, q9, q10, e1, ex, m1, rw_global, hG, nullC, wj])
    · rename_i k1 k2
      exact finK_drop ⟨by rw [← j2, if_pos k1, if_pos k2]; rfl, rfl, rfl⟩
    · rename_i k1 k2
      exact finK_drop ⟨by rw [← j2, if_pos k1, if_neg (by simp [k2])]; rfl, rfl, rfl⟩
    · rename_i k1
      rw [if_neg k1] at j2
      exact ⟨⟨j + 1, by omega, j2, rfl⟩, by omega⟩
  · simp only [go_sem, reduceIte, Nat.reduceEqDiff, Nat.reduceAdd, Nat.reduceSub, Nat.reduceMul, Nat.reduceLT, Nat.reduceLeDiff, Nat.reducePow, Int.reduceToNat, Int.reduceLT, Int.reduceLE, Int.reduceEq, Int.reduceNe, Int.reduceAdd, Int.reduceSub, Int.reduceMul, Int.reduceNeg, q1, q4, q8, q9, q10, e1, rw_global, hG, nullC]
    rw [List.drop_eq_nil_of_le (by omega), getV] at j2
    exact finK_drop ⟨by rw [← j2]; rfl, rfl, rfl⟩

/-- A row to which may be appended, and the tokens about it. -/
def TW (m : Nat) (tk : Tk) (ω : List Nat) : Prop := (tk = .full ∧ ω = []) ∨ ∃ t, tk = .live t m ∧ ω = [t]
theorem TW.ok {m : Nat} {tk : Tk} {ω : List Nat} (h : TW m tk ω) : tokOk m ω tk = True := by
  rcases h with ⟨rfl, rfl⟩ | ⟨t, rfl, rfl⟩
  · rfl
  · simp [tokOk]
theorem TW.gone {m : Nat} {tk : Tk} {ω : List Nat} (h : TW m tk ω) : tokGone ω tk = [] := by
  rcases h with ⟨rfl, rfl⟩ | ⟨t, rfl, rfl⟩
  · rfl
  · simp [tokGone]
theorem TW.full (m : Nat) : TW m .full [] := .inl ⟨rfl, rfl⟩
theorem TW.live (m t : Nat) : TW m (.live t m) [t] := .inr ⟨t, rfl, rfl⟩

structure Fd where
  id : Int
  name : ByteArray
  type : Int
  parent : Int
  deriving DecidableEq
def fdD (f : Fd) : D := .agg [.int .i64 f.id, .str f.name, .int .i64 f.type, .int .i64 f.parent]
theorem Fd_at {l : List Fd} {j : Nat} (h : j < l.length) : ∃ f, l[j]? = some f ∧ (l.map fdD).getD j .any = .agg [.int .i64 f.id, .str f.name, .int .i64 f.type, .int .i64 f.parent] := at_map h
def leavesF (l : List Fd) : List Int := (l.filter fun f => !decide (f.type = 6)).map (·.id)
theorem leavesF_len (l : List Fd) : (leavesF l).length ≤ l.length := by
  unfold leavesF; rw [List.length_map]; exact List.length_filter_le ..
theorem intD_cells (l : List Int) : ∀ x ∈ l.map intD, x.cells.length = 1 := fun x hx => by
  obtain ⟨t, _, rfl⟩ := List.mem_map.1 hx; rfl
theorem Leaves_ok (fs : List Fd) (nx : Int) (z : fs.length ≤ 1048576) : VN P G 27 [.agg [.sl .none (fs.map fdD), .int .i64 nx]] (.sl .none ((leavesF fs).map intD)) := by
  unfold VN
  refine VC.ofs (fun | 99999999 => [(0, [0, 1, 2, 3, 5, 7, 8, 9, 10, 15])] | _ => []) [2] mixed Tryz.func27 rfl rfl rfl rfl (by decide +kernel) (by simp) ?_
  simp only [go_sem, reduceIte, Nat.reduceEqDiff, Nat.reduceAdd, Nat.reduceSub, Nat.reduceMul, Nat.reduceLT, Nat.reduceLeDiff, Nat.reducePow, Int.reduceToNat, Int.reduceLT, Int.reduceLE, Int.reduceEq, Int.reduceNe, Int.reduceAdd, Int.reduceSub, Int.reduceMul, Int.reduceNeg]
  intro b0
  refine vwq_loop (fun v => ∃ (j : Nat) (tk : Tk), j ≤ fs.length ∧ TW 1 tk v.ω ∧ v.σ 3 = .sl tk ((leavesF (fs.take j)).map intD) ∧ v.σ 7 = .sl .none (fs.map fdD) ∧ v.σ 8 = .int .i64 fs.length ∧ v.σ 9 = .int .i64 j) (fun v => fs.length - (ival (v.σ 9)).toNat) ?_ ?_
  · exact ⟨0, .full, by omega, TW.full 1, rfl, rfl, by rw [← List.length_map (f := fdD)]; rfl, rfl⟩
  rintro σ β ω ⟨j, tk, hj, hw, q3, q7, q8, q9⟩
  dsimp only at hw q3 q7 q8 q9
  have ho := hw.ok
  have hg := hw.gone
  simp only [go_sem, reduceIte, Nat.reduceEqDiff, Nat.reduceAdd, Nat.reduceSub, Nat.reduceMul, Nat.reduceLT, Nat.reduceLeDiff, Nat.reducePow, Int.reduceToNat, Int.reduceLT, Int.reduceLE, Int.reduceEq, Int.reduceNe, Int.reduceAdd, Int.reduceSub, Int.reduceMul, Int.reduceNeg, q3, q7, q8, q9]
  refine cd_dec (fun g => ?_) (fun g => ?_)
  · obtain ⟨x, hx, ex⟩ := Fd_at (l := fs) (j := j) (by omega)
    have ht : leavesF (fs.take (j + 1)) = leavesF (fs.take j) ++ (if x.type = 6 then [] else [x.id]) := by
      rw [List.take_add_one, hx]
      simp only [leavesF, List.filter_append, List.map_append, Option.toList_some]
      by_cases h : x.type = 6 <;> simp [h]
    have hl := leavesF_len (fs.take j)
    rw [List.length_take] at hl
    have wj := wrap_i64 (x := (j : Int) + 1) (by omega) (by omega)
    simp only [go_sem, reduceIte, Nat.reduceEqDiff, Nat.reduceAdd, Nat.reduceSub, Nat.reduceMul, Nat.reduceLT, Nat.reduceLeDiff, Nat.reducePow, Int.reduceToNat, Int.reduceLT, Int.reduceLE, Int.reduceEq, Int.reduceNe, Int.reduceAdd, Int.reduceSub, Int.reduceMul, Int.reduceNeg, q3, q7, q8, q9, ex]
    refine ⟨by rw [List.length_map]; omega, new_any fun b hb => ?_⟩
    refine cd_dec (fun k => ?_) (fun k => ?_)
    all_goals simp only [go_sem, reduceIte, Nat.reduceEqDiff, Nat.reduceAdd, Nat.reduceSub, Nat.reduceMul, Nat.reduceLT, Nat.reduceLeDiff, Nat.reducePow, Int.reduceToNat, Int.reduceLT, Int.reduceLE, Int.reduceEq, Int.reduceNe, Int.reduceAdd, Int.reduceSub, Int.reduceMul, Int.reduceNeg, q3, q7, q8, q9, ex, ho, hg, wj]
    · rw [if_neg k] at ht
      refine ⟨intD_cells _, by rw [List.length_map]; omega, fun t' _ => ⟨⟨j + 1, .live t' 1, by omega, TW.live 1 t', by rw [ht]; simp [intD], rfl⟩, by omega⟩⟩
    · have k := Decidable.not_not.1 k
      rw [if_pos k, List.append_nil] at ht
      exact ⟨⟨j + 1, tk, by omega, hw, by rw [ht], rfl⟩, by omega⟩
  · simp only [go_sem, reduceIte, Nat.reduceEqDiff, Nat.reduceAdd, Nat.reduceSub, Nat.reduceMul, Nat.reduceLT, Nat.reduceLeDiff, Nat.reducePow, Int.reduceToNat, Int.reduceLT, Int.reduceLE, Int.reduceEq, Int.reduceNe, Int.reduceAdd, Int.reduceSub, Int.reduceMul, Int.reduceNeg, q3, q7, q8, q9]
    rw [List.take_of_length_le (by omega)]
    exact finK_drop ⟨rfl, rfl, rfl⟩
end Go.Proofs.YtnoenipdooackaaGreatDoorS
namespace Go.Proofs.YtnoenipdooackaaGreatDoorS
open Go Go.Proofs.YtnoenipdooackaaGreatDoorV

variable {G : Heap}
attribute [local irreducible] VN VC VX VQ

abbrev Rw := List Cl
def rwD (r : Rw) : D := .agg [.sl .none (r.map clD)]
theorem Rw_at {l : List Rw} {j : Nat} (h : j < l.length) : ∃ r, l[j]? = some r ∧ (l.map rwD).getD j .any = .agg [.sl .none (r.map clD)] := at_map h
theorem intD_at {l : List Int} {j : Nat} (h : j < l.length) : ∃ r, l[j]? = some r ∧ (l.map intD).getD j .any = .int .i64 r := at_map h
def bdS (b : Bd) (r : Rw) : Bd := if (getV r b.id).null = true then ⟨b.id, b.nulls + 1, b.min, b.max⟩ else ⟨b.id, b.nulls, lesserV b.min (getV r b.id), greaterV b.max (getV r b.id)⟩
def bdF (l : List Rw) (id : Int) : Bd := l.foldl bdS ⟨id, 0, Vl.nul, Vl.nul⟩
theorem bdS_id (b : Bd) (r : Rw) : (bdS b r).id = b.id := by unfold bdS; split <;> rfl
theorem Bd_cells8 (l : List Bd) : ∀ x ∈ l.map Bd.d, x.cells.length = 8 := fun x hx => by
  obtain ⟨t, _, rfl⟩ := List.mem_map.1 hx; rfl
def ofF (ids : List Int) (l : List Rw) : Sm := ⟨l.length, ids.map (bdF l)⟩
set_option maxHeartbeats 4000000 in
theorem Of_ok (hG : G 0 = some nullC) (fs : List Fd) (nx : Int) (l : List Rw) (z : fs.length ≤ 1048576) (zl : l.length ≤ 1048576) : VN P G 8 [.agg [.sl .none (fs.map fdD), .int .i64 nx], .sl .none (l.map rwD)] (.agg (ofF (leavesF fs) l).cells) := by
  have hL := Leaves_ok (G := G) fs nx z
  have zi := leavesF_len fs
  obtain ⟨ids, hids⟩ : ∃ ids, leavesF fs = ids := ⟨_, rfl⟩
  rw [hids] at hL zi ⊢
  unfold VN
  refine VC.ofc (fun | 12 => [(0, []), (1, []), (2, []), (4, []), (5, [3]), (6, [3]), (3, []), (8, []), (7, []), (9, []), (10, []), (11, [])] | 99999999 => [(0, [0, 1, 2, 4, 5, 7, 8, 10, 11, 16, 17, 18, 19, 26, 27, 28, 29, 36])] | _ => []) [.cell 4 41] mixed Tryz.func8 rfl rfl rfl rfl (by decide +kernel) (by simp) ?_
  simp only [go_sem, reduceIte, Nat.reduceEqDiff, Nat.reduceAdd, Nat.reduceSub, Nat.reduceMul, Nat.reduceLT, Nat.reduceLeDiff, Nat.reducePow, Int.reduceToNat, Int.reduceLT, Int.reduceLE, Int.reduceEq, Int.reduceNe, Int.reduceAdd, Int.reduceSub, Int.reduceMul, Int.reduceNeg]
  intro b0
  refine new_1 fun b1 h1 h2 => ?_
  refine new_2 fun b2 h3 h4 h5 => ?_
  try simp only [go_sem, reduceIte, Nat.reduceEqDiff, Nat.reduceAdd, Nat.reduceSub, Nat.reduceMul, Nat.reduceLT, Nat.reduceLeDiff, Nat.reducePow, Int.reduceToNat, Int.reduceLT, Int.reduceLE, Int.reduceEq, Int.reduceNe, Int.reduceAdd, Int.reduceSub, Int.reduceMul, Int.reduceNeg, h1, h2, h3, h4, h5]
  refine cK_vn hL ?_
  try simp only [go_sem, reduceIte, Nat.reduceEqDiff, Nat.reduceAdd, Nat.reduceSub, Nat.reduceMul, Nat.reduceLT, Nat.reduceLeDiff, Nat.reducePow, Int.reduceToNat, Int.reduceLT, Int.reduceLE, Int.reduceEq, Int.reduceNe, Int.reduceAdd, Int.reduceSub, Int.reduceMul, Int.reduceNeg, h1, h2, h3, h4, h5]
  generalize hβ : Heap.set _ b2 _ = β0
  have e1 : β0 b1 = some [.int .i64 0, .sl .full []] := by rw [← hβ]; simp [Heap.set, h1, h2, h3, h4, h5]
  have e2 : β0 b2 = some [.int .i64 l.length, .sl .full []] := by rw [← hβ]; simp [Heap.set, h1, h2, h3, h4, h5]
  clear hβ
  refine vwq_loop (fun v => ∃ (j : Nat) (tk : Tk), j ≤ ids.length ∧ TW 8 tk v.ω ∧ v.σ 1 = .sl .none (l.map rwD) ∧ v.σ 4 = .pb b1 0 ∧ v.σ 5 = .pb b2 0 ∧ v.σ 16 = .sl .none (ids.map intD) ∧ v.σ 17 = .int .i64 ids.length ∧ v.σ 18 = .int .i64 j ∧ v.β b1 = some [.int .i64 0, .sl .full []] ∧ v.β b2 = some [.int .i64 l.length, .sl tk (((ids.take j).map (bdF l)).map Bd.d)]) (fun v => ids.length - (ival (v.σ 18)).toNat) ?_ ?_
  · exact ⟨0, .full, by omega, TW.full 8, rfl, rfl, rfl, rfl, by rw [← List.length_map (f := intD)]; rfl, rfl, e1, e2⟩
  clear e1 e2 β0
  rintro σ β ω ⟨j, tk, hj, hw, q1, q4, q5, q16, q17, q18, e1, e2⟩
  dsimp only at hw q1 q4 q5 q16 q17 q18 e1 e2
  have ho := hw.ok
  have hg := hw.gone
  try simp only [go_sem, reduceIte, Nat.reduceEqDiff, Nat.reduceAdd, Nat.reduceSub, Nat.reduceMul, Nat.reduceLT, Nat.reduceLeDiff, Nat.reducePow, Int.reduceToNat, Int.reduceLT, Int.reduceLE, Int.reduceEq, Int.reduceNe, Int.reduceAdd, Int.reduceSub, Int.reduceMul, Int.reduceNeg, q1, q4, q5, q16, q17, q18, e1, e2]
  refine cd_dec (fun g => ?_) (fun g => ?_)
  · obtain ⟨id, hx, ex⟩ := intD_at (l := ids) (j := j) (by omega)
    have wj := wrap_i64 (x := (j : Int) + 1) (by omega) (by omega)
    try simp only [go_sem, reduceIte, Nat.reduceEqDiff, Nat.reduceAdd, Nat.reduceSub, Nat.reduceMul, Nat.reduceLT, Nat.reduceLeDiff, Nat.reducePow, Int.reduceToNat, Int.reduceLT, Int.reduceLE, Int.reduceEq, Int.reduceNe, Int.reduceAdd, Int.reduceSub, Int.reduceMul, Int.reduceNeg, q1, q4, q5, q16, q17, q18, e1, e2, ex, rw_global, hG, nullC]
    refine ⟨by rw [List.length_map]; omega, new_any fun b3 hb => ?_⟩
    have m1 := box_ne hb e1
    have m2 := box_ne hb e2
    clear hb
    try simp only [go_sem, reduceIte, Nat.reduceEqDiff, Nat.reduceAdd, Nat.reduceSub, Nat.reduceMul, Nat.reduceLT, Nat.reduceLeDiff, Nat.reducePow, Int.reduceToNat, Int.reduceLT, Int.reduceLE, Int.reduceEq, Int.reduceNe, Int.reduceAdd, Int.reduceSub, Int.reduceMul, Int.reduceNeg, q1, q4, q5, q16, q17, q18, e1, e2, ex, m1, m2]
    generalize hβ : Heap.set _ b3 _ = β0
    have f1 : β0 b1 = some [.int .i64 0, .sl .full []] := by rw [← hβ]; simp [Heap.set, m1, m2, e1]
    have f2 : β0 b2 = some [.int .i64 l.length, .sl tk (((ids.take j).map (bdF l)).map Bd.d)] := by rw [← hβ]; simp [Heap.set, m1, m2, e2]
    have f3 : β0 b3 = some (Bd.mk id 0 Vl.nul Vl.nul).cells := by rw [← hβ]; simp [Heap.set, Bd.cells, Vl.nul]
    clear hβ e1 e2
    refine vwq_loop (fun v => ∃ (i : Nat) (b : Bd), i ≤ l.length ∧ b.id = id ∧ 0 ≤ b.nulls ∧ b.nulls ≤ i ∧ (l.drop i).foldl bdS b = bdF l id ∧ v.ω = ω ∧ v.σ 1 = .sl .none (l.map rwD) ∧ v.σ 4 = .pb b1 0 ∧ v.σ 5 = .pb b2 0 ∧ v.σ 7 = .int .i64 id ∧ v.σ 8 = .pb b3 0 ∧ v.σ 16 = .sl .none (ids.map intD) ∧ v.σ 17 = .int .i64 ids.length ∧ v.σ 18 = .int .i64 j ∧ v.σ 26 = .sl .none (l.map rwD) ∧ v.σ 27 = .int .i64 l.length ∧ v.σ 28 = .int .i64 i ∧ v.β b1 = some [.int .i64 0, .sl .full []] ∧ v.β b2 = some [.int .i64 l.length, .sl tk (((ids.take j).map (bdF l)).map Bd.d)] ∧ v.β b3 = some b.cells) (fun v => l.length - (ival (v.σ 28)).toNat) ?_ ?_
    · exact ⟨0, _, by omega, rfl, by simp, by simp, rfl, rfl, rfl, rfl, rfl, rfl, rfl, rfl, rfl, rfl, rfl, by rw [← List.length_map (f := rwD)]; rfl, rfl, f1, f2, f3⟩
    clear f1 f2 f3 q1 q4 q5 q16 q17 q18 β0 β σ
    rintro σ β ω' ⟨i, b, hi, bi, bn, bn', bf, hω, q1, q4, q5, q7, q8, q16, q17, q18, q26, q27, q28, e1, e2, e3⟩
    dsimp only [Bd.cells] at hω q1 q4 q5 q7 q8 q16 q17 q18 q26 q27 q28 e1 e2 e3
    subst hω
    try simp only [go_sem, reduceIte, Nat.reduceEqDiff, Nat.reduceAdd, Nat.reduceSub, Nat.reduceMul, Nat.reduceLT, Nat.reduceLeDiff, Nat.reducePow, Int.reduceToNat, Int.reduceLT, Int.reduceLE, Int.reduceEq, Int.reduceNe, Int.reduceAdd, Int.reduceSub, Int.reduceMul, Int.reduceNeg, q1, q4, q5, q7, q8, q16, q17, q18, q26, q27, q28, e1, e2, e3]
    refine cd_dec (fun g' => ?_) (fun g' => ?_)
    · obtain ⟨r, hr, er⟩ := Rw_at (l := l) (j := i) (by omega)
      have wi := wrap_i64 (x := (i : Int) + 1) (by omega) (by omega)
      have wn := wrap_i64 (x := b.nulls + 1) (by omega) (by omega)
      rw [drop_at hr, List.foldl_cons] at bf
      try simp only [go_sem, reduceIte, Nat.reduceEqDiff, Nat.reduceAdd, Nat.reduceSub, Nat.reduceMul, Nat.reduceLT, Nat.reduceLeDiff, Nat.reducePow, Int.reduceToNat, Int.reduceLT, Int.reduceLE, Int.reduceEq, Int.reduceNe, Int.reduceAdd, Int.reduceSub, Int.reduceMul, Int.reduceNeg, q1, q4, q5, q7, q8, q16, q17, q18, q26, q27, q28, e1, e2, e3, er]
      refine ⟨by rw [List.length_map]; omega, new_any fun b4 hb => ?_⟩
      have n1 := box_ne hb e1
      have n2 := box_ne hb e2
      have n3 := box_ne hb e3
      have hgc := get_ok (G := G) hG r id
      simp only [Vl.cells] at hgc
      clear hb
      try simp only [go_sem, reduceIte, Nat.reduceEqDiff, Nat.reduceAdd, Nat.reduceSub, Nat.reduceMul, Nat.reduceLT, Nat.reduceLeDiff, Nat.reducePow, Int.reduceToNat, Int.reduceLT, Int.reduceLE, Int.reduceEq, Int.reduceNe, Int.reduceAdd, Int.reduceSub, Int.reduceMul, Int.reduceNeg, q1, q4, q5, q7, q8, q16, q17, q18, q26, q27, q28, e1, e2, e3, er, n1, n2, n3]
      refine cK_vn hgc ?_
      try simp only [go_sem, reduceIte, Nat.reduceEqDiff, Nat.reduceAdd, Nat.reduceSub, Nat.reduceMul, Nat.reduceLT, Nat.reduceLeDiff, Nat.reducePow, Int.reduceToNat, Int.reduceLT, Int.reduceLE, Int.reduceEq, Int.reduceNe, Int.reduceAdd, Int.reduceSub, Int.reduceMul, Int.reduceNeg, q1, q4, q5, q7, q8, q16, q17, q18, q26, q27, q28, e1, e2, e3, er, n1, n2, n3]
      refine new_any fun b5 hb => ?_
      simp only [set_none] at hb
      have p1 := box_ne hb.2.2 e1
      have p2 := box_ne hb.2.2 e2
      have p3 := box_ne hb.2.2 e3
      have hc1 := lesser_ok (G := G) b.min (getV r id)
      have hc2 := greater_ok (G := G) b.max (getV r id)
      simp only [Vl.cells] at hc1 hc2
      repeat' (first | refine cd_dec (fun _ => ?_) (fun _ => ?_) | refine cd_b (fun _ => ?_) (fun _ => ?_) | refine cE_vn hc1 ?_ | refine cE_vn hc2 ?_ | simp only [go_sem, reduceIte, Nat.reduceEqDiff, Nat.reduceAdd, Nat.reduceSub, Nat.reduceMul, Nat.reduceLT, Nat.reduceLeDiff, Nat.reducePow, Int.reduceToNat, Int.reduceLT, Int.reduceLE, Int.reduceEq, Int.reduceNe, Int.reduceAdd, Int.reduceSub, Int.reduceMul, Int.reduceNeg, q1, q4, q5, q7, q8, q16, q17, q18, q26, q27, q28, e1, e2, e3, er, n1, n2, n3, p1, p2, p3, hb, wi, wn])
      · rename_i k
        have eb : bdS b r = ⟨b.id, b.nulls + 1, b.min, b.max⟩ := by rw [bdS, bi, if_pos k]
        rw [eb] at bf
        refine ⟨⟨i + 1, ⟨b.id, b.nulls + 1, b.min, b.max⟩, by omega, bi, by simp only; omega, by simp only; omega, bf, ?_⟩, by omega⟩
        simp [Heap.set, n1, n2, n3, p1, p2, p3, hb, e1, e2, e3, Bd.cells, m1, m2]
      · rename_i k
        have eb : bdS b r = ⟨b.id, b.nulls, lesserV b.min (getV r id), greaterV b.max (getV r id)⟩ := by rw [bdS, bi, if_neg (by simp [k])]
        rw [eb] at bf
        refine ⟨by simp [rdAdd], by simp [rdAdd], ⟨i + 1, ⟨b.id, b.nulls, lesserV b.min (getV r id), greaterV b.max (getV r id)⟩, by omega, bi, by simp only; omega, by simp only; omega, bf, ?_⟩, by omega⟩
        simp [Heap.set, n1, n2, n3, p1, p2, p3, hb, e1, e2, e3, Bd.cells, m1, m2]
    · simp only [go_sem, reduceIte, Nat.reduceEqDiff, Nat.reduceAdd, Nat.reduceSub, Nat.reduceMul, Nat.reduceLT, Nat.reduceLeDiff, Nat.reducePow, Int.reduceToNat, Int.reduceLT, Int.reduceLE, Int.reduceEq, Int.reduceNe, Int.reduceAdd, Int.reduceSub, Int.reduceMul, Int.reduceNeg, q1, q4, q5, q7, q8, q16, q17, q18, q26, q27, q28, e1, e2, e3]
      rw [List.drop_eq_nil_of_le (by omega), List.foldl_nil] at bf
      subst bf
      try simp only [go_sem, reduceIte, Nat.reduceEqDiff, Nat.reduceAdd, Nat.reduceSub, Nat.reduceMul, Nat.reduceLT, Nat.reduceLeDiff, Nat.reducePow, Int.reduceToNat, Int.reduceLT, Int.reduceLE, Int.reduceEq, Int.reduceNe, Int.reduceAdd, Int.reduceSub, Int.reduceMul, Int.reduceNeg, ho, hg, m1, m2]
      have ht : (ids.take (j + 1)).map (bdF l) = (ids.take j).map (bdF l) ++ [bdF l id] := by rw [List.take_add_one, hx]; simp
      refine ⟨Bd_cells8 _, by simp only [List.length_map, List.length_take]; omega, fun t' _ => ⟨⟨j + 1, .live t' 8, by omega, TW.live 8 t', ?_⟩, by rw [wj]; omega⟩⟩
      rw [ht]
      simp [Heap.set, e1, e2, h3, h4, h5, Bd.d, Bd.cells, wj]
  · simp only [go_sem, reduceIte, Nat.reduceEqDiff, Nat.reduceAdd, Nat.reduceSub, Nat.reduceMul, Nat.reduceLT, Nat.reduceLeDiff, Nat.reducePow, Int.reduceToNat, Int.reduceLT, Int.reduceLE, Int.reduceEq, Int.reduceNe, Int.reduceAdd, Int.reduceSub, Int.reduceMul, Int.reduceNeg, q1, q4, q5, q16, q17, q18, e1, e2]
    rw [List.take_of_length_le (by omega)]
    exact finK_drop ⟨rfl, rfl, rfl⟩
end Go.Proofs.YtnoenipdooackaaGreatDoorS
