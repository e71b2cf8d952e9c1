import Derived.Test.YtgkfcgfobckaaaaP2
import Derived.Test.YtgkfcgfobckaaaaVC
set_option linter.unusedVariables false
set_option linter.unusedSimpArgs false
namespace Go.Proofs.YtgkfcgfobckaaaaS
open Go Go.Proofs.YtgkfcgfobckaaaaV

variable {G : Heap}
attribute [local irreducible] VN VC VX VQ

theorem isAtom_ok (op : Int) : VN P G 48 [.int .i64 op] (.bool (decide (1 ≤ op) && decide (op ≤ 4))) := by
  unfold VN
  refine VC.ofs (fun | 99999999 => [(0, [0, 2])] | _ => []) [2] mixed Try.func48 rfl rfl rfl rfl (by decide +kernel) (by simp) ?_
  by_cases h : 1 ≤ op
  · have h' := eq_true h
    simp only [go_sem, reduceIte, Nat.reduceEqDiff, Nat.reduceAdd, Nat.reduceSub, Nat.reduceMul, Nat.reduceLT, Nat.reduceLeDiff, Nat.reducePow, Int.reduceToNat, Int.reduceLT, Int.reduceLE, Int.reduceEq, Int.reduceNe, Int.reduceAdd, Int.reduceSub, Int.reduceMul, Int.reduceNeg, h', ge_iff_le, decide_true, Bool.true_and]
    exact finK_drop ⟨rfl, rfl, rfl⟩
  · have h' := eq_false h
    simp only [go_sem, reduceIte, Nat.reduceEqDiff, Nat.reduceAdd, Nat.reduceSub, Nat.reduceMul, Nat.reduceLT, Nat.reduceLeDiff, Nat.reducePow, Int.reduceToNat, Int.reduceLT, Int.reduceLE, Int.reduceEq, Int.reduceNe, Int.reduceAdd, Int.reduceSub, Int.reduceMul, Int.reduceNeg, h', ge_iff_le, decide_false, Bool.false_and]
    exact finK_drop ⟨rfl, rfl, rfl⟩
theorem ofConst_str (b : ByteArray) (h : b.size ≤ mostLen) : ofConst (.string b) = .str b := by simp only [ofConst, const1, if_pos h]
theorem Len64_ok (n : Nat) (h : n ≤ 2) : VN P G 72 [.int .u64 n] (.int .i64 n) := by
  unfold VN
  refine VC.ofs (fun | 99999999 => [(0, [0, 2, 4, 8, 14])] | _ => []) [2] mixed Try.func72 rfl rfl rfl rfl (by decide +kernel) (by simp) ?_
  obtain rfl | rfl | rfl : n = 0 ∨ n = 1 ∨ n = 2 := by omega
  all_goals simp only [go_sem, reduceIte, Nat.reduceEqDiff, Nat.reduceAdd, Nat.reduceSub, Nat.reduceMul, Nat.reduceLT, Nat.reduceLeDiff, Nat.reducePow, Int.reduceToNat, Int.reduceLT, Int.reduceLE, Int.reduceEq, Int.reduceNe, Int.reduceAdd, Int.reduceSub, Int.reduceMul, Int.reduceNeg]
  all_goals rw [ofConst_str _ (by decide +kernel)]
  all_goals simp only [go_sem, reduceIte, Nat.reduceEqDiff, Nat.reduceAdd, Nat.reduceSub, Nat.reduceMul, Nat.reduceLT, Nat.reduceLeDiff, Nat.reducePow, Int.reduceToNat, Int.reduceLT, Int.reduceLE, Int.reduceEq, Int.reduceNe, Int.reduceAdd, Int.reduceSub, Int.reduceMul, Int.reduceNeg]
  all_goals exact ⟨by decide +kernel, finK_drop ⟨by kernel_rfl, rfl, rfl⟩⟩
theorem Len_ok (n : Nat) (h : n ≤ 2) : VN P G 50 [.int .u64 n] (.int .i64 n) := by
  have h0 := Len64_ok (G := G) n h
  unfold VN
  refine VC.ofs (fun | 99999999 => [(0, [0, 2])] | _ => []) [2] mixed Try.func50 rfl rfl rfl rfl (by decide +kernel) (by simp) ?_
  simp only [go_sem, reduceIte, Nat.reduceEqDiff, Nat.reduceAdd, Nat.reduceSub, Nat.reduceMul, Nat.reduceLT, Nat.reduceLeDiff, Nat.reducePow, Int.reduceToNat, Int.reduceLT, Int.reduceLE, Int.reduceEq, Int.reduceNe, Int.reduceAdd, Int.reduceSub, Int.reduceMul, Int.reduceNeg]
  refine cK_vn h0 ?_
  simp only [go_sem, reduceIte, Nat.reduceEqDiff, Nat.reduceAdd, Nat.reduceSub, Nat.reduceMul, Nat.reduceLT, Nat.reduceLeDiff, Nat.reducePow, Int.reduceToNat, Int.reduceLT, Int.reduceLE, Int.reduceEq, Int.reduceNe, Int.reduceAdd, Int.reduceSub, Int.reduceMul, Int.reduceNeg]
  exact finK_drop ⟨rfl, rfl, rfl⟩
theorem ins1_ok (tk : Tk) (xs : List Int) (h : xs.length ≤ 1) : VN P G 62 [.sl tk (xs.map iD), .int .i64 0, .int .i64 xs.length] (.tup []) := by
  unfold VN
  refine VC.ofs (fun | 4 => [(0, []), (1, []), (2, []), (3, []), (4, []), (5, []), (6, []), (7, []), (8, []), (9, []), (10, []), (11, []), (12, []), (13, []), (14, [])] | 6 => [(0, []), (1, []), (2, []), (3, []), (4, []), (5, []), (6, []), (7, []), (8, []), (9, []), (10, []), (11, []), (12, []), (13, []), (14, []), (15, []), (16, []), (17, [])] | 99999999 => [(0, [0, 1, 2, 6, 7, 12, 30])] | _ => []) [] mixed Try.func62 rfl rfl rfl rfl (by decide +kernel) (by simp) ?_
  simp only [go_sem, reduceIte, Nat.reduceEqDiff, Nat.reduceAdd, Nat.reduceSub, Nat.reduceMul, Nat.reduceLT, Nat.reduceLeDiff, Nat.reducePow, Int.reduceToNat, Int.reduceLT, Int.reduceLE, Int.reduceEq, Int.reduceNe, Int.reduceAdd, Int.reduceSub, Int.reduceMul, Int.reduceNeg]
  refine vwq_loop (fun v => v.σ 2 = .int .i64 xs.length ∧ v.σ 6 = .int .i64 1 ∧ v.β = Heap.nil ∧ v.ω = []) (fun _ => 0) ⟨rfl, rfl, rfl, rfl⟩ ?_
  rintro σ β ω ⟨q2, q6, rfl, rfl⟩
  dsimp only at q2 q6
  have g : ((1 : Int) < xs.length) = False := eq_false (by omega)
  try simp only [go_sem, reduceIte, Nat.reduceEqDiff, Nat.reduceAdd, Nat.reduceSub, Nat.reduceMul, Nat.reduceLT, Nat.reduceLeDiff, Nat.reducePow, Int.reduceToNat, Int.reduceLT, Int.reduceLE, Int.reduceEq, Int.reduceNe, Int.reduceAdd, Int.reduceSub, Int.reduceMul, Int.reduceNeg, q2, q6, g]
  exact finK_drop ⟨rfl, rfl, rfl⟩
theorem pdq1_ok (tk : Tk) (xs : List Int) (h : xs.length ≤ 1) (m : Int) : VN P G 49 [.sl tk (xs.map iD), .int .i64 0, .int .i64 xs.length, .int .i64 m] (.tup []) := by
  have h0 := ins1_ok (G := G) tk xs h
  unfold VN
  refine VC.ofs (fun | 17 => [(0, []), (1, []), (2, []), (3, []), (4, []), (5, []), (6, []), (7, []), (8, []), (9, []), (10, []), (11, []), (12, []), (13, []), (14, [])] | 99999999 => [(0, [0, 1, 2, 3, 8, 9, 10, 11, 12, 13, 14, 15, 16, 17, 18, 23, 29, 35, 50, 68, 72, 87, 113])] | _ => []) [] mixed Try.func49 rfl rfl rfl rfl (by decide +kernel) (by simp) ?_
  simp only [go_sem, reduceIte, Nat.reduceEqDiff, Nat.reduceAdd, Nat.reduceSub, Nat.reduceMul, Nat.reduceLT, Nat.reduceLeDiff, Nat.reducePow, Int.reduceToNat, Int.reduceLT, Int.reduceLE, Int.reduceEq, Int.reduceNe, Int.reduceAdd, Int.reduceSub, Int.reduceMul, Int.reduceNeg]
  refine vwq_loop (fun v => v.σ 0 = .sl tk (xs.map iD) ∧ v.σ 1 = .int .i64 0 ∧ v.σ 2 = .int .i64 xs.length ∧ v.β = Heap.nil ∧ v.ω = []) (fun _ => 0) ⟨rfl, rfl, rfl, rfl, rfl⟩ ?_
  rintro σ β ω ⟨q0, q1, q2, rfl, rfl⟩
  dsimp only at q0 q1 q2
  have w := wrap_i64 (x := (xs.length : Int)) (by omega) (by omega)
  have g : ((xs.length : Int) ≤ 12) = True := eq_true (by omega)
  try simp only [go_sem, reduceIte, Nat.reduceEqDiff, Nat.reduceAdd, Nat.reduceSub, Nat.reduceMul, Nat.reduceLT, Nat.reduceLeDiff, Nat.reducePow, Int.reduceToNat, Int.reduceLT, Int.reduceLE, Int.reduceEq, Int.reduceNe, Int.reduceAdd, Int.reduceSub, Int.reduceMul, Int.reduceNeg, q0, q1, q2, Int.sub_zero, w, g]
  refine cK_vn h0 ?_
  try simp only [go_sem, reduceIte, Nat.reduceEqDiff, Nat.reduceAdd, Nat.reduceSub, Nat.reduceMul, Nat.reduceLT, Nat.reduceLeDiff, Nat.reducePow, Int.reduceToNat, Int.reduceLT, Int.reduceLE, Int.reduceEq, Int.reduceNe, Int.reduceAdd, Int.reduceSub, Int.reduceMul, Int.reduceNeg, q0, q1, q2]
  exact finK_drop ⟨rfl, rfl, rfl⟩
theorem Sort1_ok (tk : Tk) (xs : List Int) (h : xs.length ≤ 1) : VN P G 36 [.sl tk (xs.map iD)] (.tup []) := by
  have h0 := fun m => pdq1_ok (G := G) tk xs h m
  have h1 := Len_ok (G := G) xs.length (by omega)
  unfold VN
  refine VC.ofs (fun | 99999999 => [(0, [0, 2])] | _ => []) [] mixed Try.func36 rfl rfl rfl rfl (by decide +kernel) (by simp) ?_
  have el : (xs.map iD).length = xs.length := by simp
  have em : (xs.length : Int) % 18446744073709551616 = xs.length := Int.emod_eq_of_lt (by omega) (by omega)
  simp only [go_sem, reduceIte, Nat.reduceEqDiff, Nat.reduceAdd, Nat.reduceSub, Nat.reduceMul, Nat.reduceLT, Nat.reduceLeDiff, Nat.reducePow, Int.reduceToNat, Int.reduceLT, Int.reduceLE, Int.reduceEq, Int.reduceNe, Int.reduceAdd, Int.reduceSub, Int.reduceMul, Int.reduceNeg, el, em]
  refine cK_vn h1 ?_
  simp only [go_sem, reduceIte, Nat.reduceEqDiff, Nat.reduceAdd, Nat.reduceSub, Nat.reduceMul, Nat.reduceLT, Nat.reduceLeDiff, Nat.reducePow, Int.reduceToNat, Int.reduceLT, Int.reduceLE, Int.reduceEq, Int.reduceNe, Int.reduceAdd, Int.reduceSub, Int.reduceMul, Int.reduceNeg, el]
  refine cK_vn (h0 _) ?_
  simp only [go_sem, reduceIte, Nat.reduceEqDiff, Nat.reduceAdd, Nat.reduceSub, Nat.reduceMul, Nat.reduceLT, Nat.reduceLeDiff, Nat.reducePow, Int.reduceToNat, Int.reduceLT, Int.reduceLE, Int.reduceEq, Int.reduceNe, Int.reduceAdd, Int.reduceSub, Int.reduceMul, Int.reduceNeg, el]
  exact finK_drop ⟨rfl, rfl, rfl⟩
theorem Compact1_ok (tk : Tk) (xs : List Int) (h : xs.length ≤ 1) : VN P G 37 [.sl tk (xs.map iD)] (.sl .none (xs.map iD)) := by
  unfold VN
  refine VC.ofs (fun | 6 => [(0, []), (1, []), (2, []), (3, []), (4, []), (5, []), (6, []), (7, []), (8, []), (9, [])] | 11 => [(0, []), (1, []), (2, []), (3, []), (4, []), (5, []), (6, []), (7, []), (8, []), (9, [])] | 99999999 => [(0, [0, 2, 3, 4, 5, 8, 13, 25, 32, 44])] | _ => []) [2] mixed Try.func37 rfl rfl rfl rfl (by decide +kernel) (by simp) ?_
  have el : (xs.map iD).length = xs.length := by simp
  have g : ((xs.length : Int) < 2) = True := eq_true (by omega)
  simp only [go_sem, reduceIte, Nat.reduceEqDiff, Nat.reduceAdd, Nat.reduceSub, Nat.reduceMul, Nat.reduceLT, Nat.reduceLeDiff, Nat.reducePow, Int.reduceToNat, Int.reduceLT, Int.reduceLE, Int.reduceEq, Int.reduceNe, Int.reduceAdd, Int.reduceSub, Int.reduceMul, Int.reduceNeg, el, g]
  exact finK_drop ⟨rfl, rfl, rfl⟩
/-! What all predicates of a predicate are handed to. -/
section
variable {β : Heap} {ω : List Nat}
variable {ops : Array Oper} {rest : List Oper} {Q : VE → St → Prop} {dst : Option Tmp} {σ : Sg} {args : List D} {Φ : Out → Heap → List Nat → Prop}
theorem cK_yd {l : Nat} (h : VY P G l args β ω Φ) (hk : ∀ d β' ω', Φ (.ret d) β' ω' → Ko P G ops rest Q dst σ d β' ω') (hq : ∀ d β' ω', ¬ Φ (.pan d) β' ω') : cK P G (.clo (.yield l) [] []) args β ω ops rest Q dst σ := by
  have : VY P G l ([] ++ args) β ω (fun o β' ω' => match o with | .ret d => Ko P G ops rest Q dst σ d β' ω' | .pan d => Q (.panic d) ⟨σ, β', ω'⟩) := by
    simp only [List.nil_append]
    exact h.mono fun o β' ω' hf => by
      cases o with
      | ret d => exact hk d β' ω' hf
      | pan d => exact (hq d β' ω' hf).elim
  exact this
theorem all_ok (p : Pr) : VC P G 47 [.agg p.cells] Heap.nil [] fun o β ω => ∃ b, o = .ret (.clo (.func 60) [] [.pb b 0]) ∧ β = Heap.nil.set b p.cells ∧ ω = [] := by
  refine VC.ofs (fun | 99999999 => [(0, [0, 1, 2])] | _ => []) [2] mixed Try.func47 rfl rfl rfl rfl (by decide +kernel) (by simp) ?_
  simp only [go_sem, reduceIte, Nat.reduceEqDiff, Nat.reduceAdd, Nat.reduceSub, Nat.reduceMul, Nat.reduceLT, Nat.reduceLeDiff, Nat.reducePow, Int.reduceToNat, Int.reduceLT, Int.reduceLE, Int.reduceEq, Int.reduceNe, Int.reduceAdd, Int.reduceSub, Int.reduceMul, Int.reduceNeg]
  exact fun b => finK_exact ⟨b, rfl, rfl, rfl⟩
theorem walk_ok (p : Pr) (hk : p.kids = []) (l : Nat) {Ψ : Heap → List Nat → Prop} (hy : ∀ b, β b = none → VY P G l [.agg p.cells] (β.set b p.cells) ω fun o β' ω' => o = .ret (.bool true) ∧ β' b = some p.cells ∧ Ψ β' ω') :
    VC P G 61 [.agg p.cells, .clo (.yield l) [] []] β ω fun o β' ω' => o = .ret (.bool true) ∧ Ψ β' ω' := by
  refine VC.ofs (fun | 99999999 => [(0, [0, 1, 2, 4, 6, 10, 12, 13, 14, 15, 21])] | _ => []) [4] mixed Try.func61 rfl rfl rfl rfl (by decide +kernel) (by simp) ?_
  simp only [go_sem, reduceIte, Nat.reduceEqDiff, Nat.reduceAdd, Nat.reduceSub, Nat.reduceMul, Nat.reduceLT, Nat.reduceLeDiff, Nat.reducePow, Int.reduceToNat, Int.reduceLT, Int.reduceLE, Int.reduceEq, Int.reduceNe, Int.reduceAdd, Int.reduceSub, Int.reduceMul, Int.reduceNeg, p.take7, p.obj, p.len7]
  refine new_any fun b hb => cK_yd (hy b hb) ?_ ?_
  · rintro d β' ω' ⟨h1, h2, h3⟩
    cases h1
    have e6 : p.cells.getD 6 .any = .sl .none [] := by simp [Pr.cells, hk]
    simp only [go_sem, reduceIte, Nat.reduceEqDiff, Nat.reduceAdd, Nat.reduceSub, Nat.reduceMul, Nat.reduceLT, Nat.reduceLeDiff, Nat.reducePow, Int.reduceToNat, Int.reduceLT, Int.reduceLE, Int.reduceEq, Int.reduceNe, Int.reduceAdd, Int.reduceSub, Int.reduceMul, Int.reduceNeg, h2, p.obj, p.len7, e6]
    refine vwq_loop (fun v => v.σ 13 = .int .i64 0 ∧ v.σ 14 = .int .i64 0 ∧ Ψ v.β v.ω) (fun _ => 0) ⟨rfl, rfl, h3⟩ ?_
    rintro σ β ω ⟨q13, q14, h3⟩
    dsimp only at q13 q14 h3
    try simp only [go_sem, reduceIte, Nat.reduceEqDiff, Nat.reduceAdd, Nat.reduceSub, Nat.reduceMul, Nat.reduceLT, Nat.reduceLeDiff, Nat.reducePow, Int.reduceToNat, Int.reduceLT, Int.reduceLE, Int.reduceEq, Int.reduceNe, Int.reduceAdd, Int.reduceSub, Int.reduceMul, Int.reduceNeg, q13, q14]
    exact finK_exact ⟨rfl, h3⟩
  · rintro d β' ω' ⟨h1, _⟩
    cases h1
theorem all1_ok (p : Pr) (hk : p.kids = []) (l bq : Nat) {Ψ : Heap → List Nat → Prop} (hq : β bq = some p.cells) (hy : ∀ b, β b = none → VY P G l [.agg p.cells] (β.set b p.cells) ω fun o β' ω' => o = .ret (.bool true) ∧ β' b = some p.cells ∧ Ψ β' ω') :
    VC P G 60 ([] ++ [.clo (.yield l) [] []] ++ [.pb bq 0]) β ω fun o β' ω' => o = .ret (.tup []) ∧ Ψ β' ω' := by
  refine VC.ofs (fun | 99999999 => [(0, [0, 1])] | _ => []) [] mixed Try.func60 rfl rfl rfl rfl (by decide +kernel) (by simp) ?_
  simp only [go_sem, reduceIte, Nat.reduceEqDiff, Nat.reduceAdd, Nat.reduceSub, Nat.reduceMul, Nat.reduceLT, Nat.reduceLeDiff, Nat.reducePow, Int.reduceToNat, Int.reduceLT, Int.reduceLE, Int.reduceEq, Int.reduceNe, Int.reduceAdd, Int.reduceSub, Int.reduceMul, Int.reduceNeg, hq, p.take7, p.obj, p.len7]
  refine cK_clo (fs := []) (cs := []) (by simp only [List.nil_append, List.append_nil]; exact walk_ok p hk l hy) ?_ ?_
  · rintro d β' ω' ⟨h1, h2⟩
    simp only [go_sem, reduceIte, Nat.reduceEqDiff, Nat.reduceAdd, Nat.reduceSub, Nat.reduceMul, Nat.reduceLT, Nat.reduceLeDiff, Nat.reducePow, Int.reduceToNat, Int.reduceLT, Int.reduceLE, Int.reduceEq, Int.reduceNe, Int.reduceAdd, Int.reduceSub, Int.reduceMul, Int.reduceNeg]
    exact finK_exact ⟨rfl, h2⟩
  · rintro d β' ω' ⟨h1, _⟩
    cases h1
end
theorem Fields_ok (p : Pr) (hk : p.kids = []) : VN P G 34 [.agg p.cells] (.sl .none ((if 1 ≤ p.op ∧ p.op ≤ 4 then [p.id] else []).map iD)) := by
  unfold VN
  refine VC.ofs (fun | 99999999 => [(0, [0, 1, 2, 3, 4, 6, 10])] | _ => []) [2] mixed Try.func34 rfl rfl rfl rfl (by decide +kernel) (by simp) ?_
  simp only [go_sem, reduceIte, Nat.reduceEqDiff, Nat.reduceAdd, Nat.reduceSub, Nat.reduceMul, Nat.reduceLT, Nat.reduceLeDiff, Nat.reducePow, Int.reduceToNat, Int.reduceLT, Int.reduceLE, Int.reduceEq, Int.reduceNe, Int.reduceAdd, Int.reduceSub, Int.reduceMul, Int.reduceNeg]
  intro b1
  refine new_1 fun b3 h1 h2 => ?_
  try simp only [go_sem, reduceIte, Nat.reduceEqDiff, Nat.reduceAdd, Nat.reduceSub, Nat.reduceMul, Nat.reduceLT, Nat.reduceLeDiff, Nat.reducePow, Int.reduceToNat, Int.reduceLT, Int.reduceLE, Int.reduceEq, Int.reduceNe, Int.reduceAdd, Int.reduceSub, Int.reduceMul, Int.reduceNeg, h1, h2, p.take7, p.obj, p.len7]
  refine callK_vc (all_ok p) (Part.nil _ _) ?_ ?_
  · rintro d β' ω' ⟨β1, ω1, ⟨bq, h3, h4, h5⟩, h6, _, rfl, rfl⟩
    cases h3; subst h4 h5
    have hq := h6 bq (by simp [Heap.set]) rfl
    have n1 : b1 ≠ bq ∧ bq ≠ b1 := by
      have e := hq
      simp only [set_none] at e
      exact e.2.1
    have n3 : b3 ≠ bq ∧ bq ≠ b3 := by
      have e := hq
      simp only [set_none] at e
      exact e.1
    simp only [go_sem, reduceIte, Nat.reduceEqDiff, Nat.reduceAdd, Nat.reduceSub, Nat.reduceMul, Nat.reduceLT, Nat.reduceLeDiff, Nat.reducePow, Int.reduceToNat, Int.reduceLT, Int.reduceLE, Int.reduceEq, Int.reduceNe, Int.reduceAdd, Int.reduceSub, Int.reduceMul, Int.reduceNeg]
    generalize hσ : upd _ 0 _ = σ0
    have q3 : σ0 3 = .pb b3 0 := by rw [← hσ]; rfl
    clear hσ
    generalize hβ : joinH _ _ _ = β0
    have eq : β0 bq = some p.cells := by rw [← hβ]; simp [joinH, Heap.set]
    have e3 : β0 b3 = some [.sl .full []] := by rw [← hβ]; simp [joinH, Heap.set, n3, Heap.nil]
    clear hβ
    rw [joinT_nil]
    refine ⟨trivial, ⟨_, Try.func60, rfl, rfl⟩, fun l r hl hn => ?_⟩
    have m1 := box_ne hl eq
    have m3 := box_ne hl e3
    have e3' : (β0.set l [.lp r σ0]) b3 = some [.sl .full []] := by simp [Heap.set, m3, e3]
    have eq' : (β0.set l [.lp r σ0]) bq = some p.cells := by simp [Heap.set, m1, eq]
    have el' : (β0.set l [.lp r σ0]) l = some [.lp r σ0] := by simp [Heap.set]
    generalize β0.set l [.lp r σ0] = β2 at *
    refine (all1_ok (G := G) (Ψ := fun β ω => β l = some [.lp r σ0] ∧ ∃ t, β b3 = some [.sl t ((if 1 ≤ p.op ∧ p.op ≤ 4 then [p.id] else []).map iD)]) p hk l bq eq' fun b hb => ?_).mono ?_
    · refine VY.roundq (pb := false) (r := r) (tm := σ0) (fun | 99999999 => [(0, [0, 1, 2, 3, 4, 6, 10])] | _ => []) mixed (by simp [Heap.set, box_ne hb el', el']) hn rfl rfl rfl (by decide +kernel) (by decide +kernel) ?_
      have mb := box_ne hb el'
      have mb3 := box_ne hb e3'
      rw [show roundσ σ0 #[7].toList [D.agg p.cells] = upd σ0 7 (.agg p.cells) from rfl]
      simp only [go_sem, reduceIte, Nat.reduceEqDiff, Nat.reduceAdd, Nat.reduceSub, Nat.reduceMul, Nat.reduceLT, Nat.reduceLeDiff, Nat.reducePow, Int.reduceToNat, Int.reduceLT, Int.reduceLE, Int.reduceEq, Int.reduceNe, Int.reduceAdd, Int.reduceSub, Int.reduceMul, Int.reduceNeg, q3, p.take7, p.obj, p.len7]
      refine new_any fun b4 hb4 => ?_
      simp only [set_none] at hb4
      have k4 := hb4.1
      have kl := box_ne hb4.2 el'
      have k3 := box_ne hb4.2 e3'
      have e0 : p.cells.getD 0 .any = .int .i64 p.op := rfl
      have e1 : p.cells.getD 1 .any = .int .i64 p.id := rfl
      have eo : p.cells.all D.one = true := rfl
      have ll : isObj [D.lp r σ0] = true := rfl
      try simp only [go_sem, reduceIte, Nat.reduceEqDiff, Nat.reduceAdd, Nat.reduceSub, Nat.reduceMul, Nat.reduceLT, Nat.reduceLeDiff, Nat.reducePow, Int.reduceToNat, Int.reduceLT, Int.reduceLE, Int.reduceEq, Int.reduceNe, Int.reduceAdd, Int.reduceSub, Int.reduceMul, Int.reduceNeg, q3, p.take7, p.obj, p.len7, k4, kl, k3, mb, mb3, el', e3', e0, e1, eo, m3]
      refine cK_vn (isAtom_ok p.op) ?_
      by_cases ha : 1 ≤ p.op ∧ p.op ≤ 4
      · have h1' : decide (1 ≤ p.op) = true := by simp [ha.1]
        have h2' : decide (p.op ≤ 4) = true := by simp [ha.2]
        have ha' := eq_true ha
        try simp only [go_sem, reduceIte, Nat.reduceEqDiff, Nat.reduceAdd, Nat.reduceSub, Nat.reduceMul, Nat.reduceLT, Nat.reduceLeDiff, Nat.reducePow, Int.reduceToNat, Int.reduceLT, Int.reduceLE, Int.reduceEq, Int.reduceNe, Int.reduceAdd, Int.reduceSub, Int.reduceMul, Int.reduceNeg, q3, p.take7, p.obj, p.len7, k4, kl, k3, mb, mb3, el', e3', e0, e1, eo, m3, h1', h2', Bool.and_self]
        intro t'
        rw [rdQ_normal]
        refine ⟨by simp [Heap.set, m3], rfl, by simp [Heap.set, mb, mb3, k4], by simp [Heap.set], .live t' 1, by simp [Heap.set, m3, ha, iD]⟩
      · have h1' : (decide (1 ≤ p.op) && decide (p.op ≤ 4)) = false := by simp; omega
        try simp only [go_sem, reduceIte, Nat.reduceEqDiff, Nat.reduceAdd, Nat.reduceSub, Nat.reduceMul, Nat.reduceLT, Nat.reduceLeDiff, Nat.reducePow, Int.reduceToNat, Int.reduceLT, Int.reduceLE, Int.reduceEq, Int.reduceNe, Int.reduceAdd, Int.reduceSub, Int.reduceMul, Int.reduceNeg, q3, p.take7, p.obj, p.len7, k4, kl, k3, mb, mb3, el', e3', e0, e1, eo, m3, h1']
        rw [rdQ_normal]
        refine ⟨by simp [Heap.set], rfl, by simp [Heap.set, mb, mb3, k4], by simp [Heap.set], .full, ?_⟩
        rw [if_neg ha]
        simp [Heap.set, m3, k3, mb3, e3']
    · rintro o β' ω' ⟨rfl, e4, t, e5⟩
      refine ⟨r, σ0, e4, by rw [hn.state]; exact fun h => (by cases h), ?_⟩
      rw [hn.pending]
      have e6 : (β'.drop l) b3 = some [.sl t ((if 1 ≤ p.op ∧ p.op ≤ 4 then [p.id] else []).map iD)] := by simp only [Heap.drop, if_neg m3.1]; exact e5
      generalize β'.drop l = β4 at *
      simp only [go_sem, reduceIte, Nat.reduceEqDiff, Nat.reduceAdd, Nat.reduceSub, Nat.reduceMul, Nat.reduceLT, Nat.reduceLeDiff, Nat.reducePow, Int.reduceToNat, Int.reduceLT, Int.reduceLE, Int.reduceEq, Int.reduceNe, Int.reduceAdd, Int.reduceSub, Int.reduceMul, Int.reduceNeg, rangeOut, q3, e6]
      have hX : (if 1 ≤ p.op ∧ p.op ≤ 4 then [p.id] else []).length ≤ 1 := by split <;> simp
      generalize (if 1 ≤ p.op ∧ p.op ≤ 4 then [p.id] else []) = X at *
      refine cK_vn (Sort1_ok t X hX) ?_
      simp only [go_sem, reduceIte, Nat.reduceEqDiff, Nat.reduceAdd, Nat.reduceSub, Nat.reduceMul, Nat.reduceLT, Nat.reduceLeDiff, Nat.reducePow, Int.reduceToNat, Int.reduceLT, Int.reduceLE, Int.reduceEq, Int.reduceNe, Int.reduceAdd, Int.reduceSub, Int.reduceMul, Int.reduceNeg, q3, e6]
      refine cK_vn (Compact1_ok t X hX) ?_
      simp only [go_sem, reduceIte, Nat.reduceEqDiff, Nat.reduceAdd, Nat.reduceSub, Nat.reduceMul, Nat.reduceLT, Nat.reduceLeDiff, Nat.reducePow, Int.reduceToNat, Int.reduceLT, Int.reduceLE, Int.reduceEq, Int.reduceNe, Int.reduceAdd, Int.reduceSub, Int.reduceMul, Int.reduceNeg, q3, e6]
      exact finK_drop ⟨rfl, rfl, rfl⟩
  · rintro d β' ω' ⟨β1, ω1, ⟨bq, h3, _⟩, _⟩
    cases h3
end Go.Proofs.YtgkfcgfobckaaaaS
