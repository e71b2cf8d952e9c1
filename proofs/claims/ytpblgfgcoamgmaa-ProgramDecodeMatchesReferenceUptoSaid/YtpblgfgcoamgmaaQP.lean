/-
  Predicates: fenlandref08.Decode.
-/
import Derived.Test.YtpblgfgcoamgmaaQN
set_option linter.unusedVariables false
set_option linter.unusedSimpArgs false
namespace Go.Proofs.YtpblgfgcoamgmaaS
open Go Go.Proofs.YtpblgfgcoamgmaaV

variable {G : Heap}
attribute [local irreducible] VN VC VX VQ VY VW VTA VT0

theorem readG_ge {b : List Nat} {m : Nat} {rd : Sc → Pr × Sc} (hrd : ∀ s, 0 ≤ s.1 → 0 ≤ (rd s).2.1) {s : Sc} (hs : 0 ≤ s.1) : 0 ≤ (readG b m rd s).2.1 := by
  have hv : ∀ n l (s : Sc), 0 ≤ s.1 → 0 ≤ (elR b n l s).2.1 := by
    intro n l s h; exact elR_ge h
  have hk : ∀ n l (s : Sc), 0 ≤ s.1 → 0 ≤ (kidsF rd n l s).2.1 := by
    intro n; induction n with
    | zero => intro l s h; exact h
    | succ n ih =>
      intro l s h; rw [kidsF]; split
      · exact ih _ _ (hrd _ h)
      · exact h
  have g1 := bytR_ge (b := b) (m := 7) hs
  have g2 : 0 ≤ (if isAt (bytR b 7 s).1 then nxS b (bytR b 7 s).2 else (0, (bytR b 7 s).2)).2.1 := by
    split
    · exact nxS_ge g1
    · exact g1
  unfold readG
  dsimp only
  split
  · exact nxS_ge (nxS_ge g2)
  · split
    · exact hv _ _ _ (cntF_ge g2)
    · split
      · exact txtF_ge g2
      · split
        · exact hk _ _ _ (failS_ge (failS_ge (cntF_ge g2)))
        · exact g2
theorem readF_ge {b : List Nat} : ∀ {m : Nat} {s : Sc}, 0 ≤ s.1 → 0 ≤ (readF b m s).2.1
  | 0, _, h => readG_ge (fun _ h => h) h
  | _ + 1, _, h => readG_ge (fun _ h => readF_ge h) h
theorem read_ok (b : List Nat) (hb : Byt b) (hl : b.length ≤ 1099511627776) : ∀ (m : Nat), m ≤ 8 → ∀ (s : Sc), 0 ≤ s.1 → VN P G 66 [.agg (rdC b s), .int .i64 (8 - (m : Int))] (.tup [.agg (readF b m s).1.cells, .agg (rdC b (readF b m s).2)])
  | 0, hm, s, h => read_step b hb hl 0 hm (fun s => (Pr.nul, s)) (fun _ h => h) (fun h => absurd h (by omega)) s h
  | m + 1, hm, s, h => read_step b hb hl (m + 1) hm (readF b m) (fun _ h => readF_ge h) (fun _ s h => by
      have h1 := read_ok b hb hl m (by omega) s h
      rw [show (9 : Int) - ((m + 1 : Nat) : Int) = 8 - (m : Int) by omega]; exact h1) s h
theorem rDecode_ok (b : List Nat) (at_ : Int) (hb : Byt b) (hl : b.length ≤ 1099511627776) :
    VN P G 43 [.sl .none (bs b), .int .i64 at_] (.tup [.agg (pDecF b at_).1.cells, .int .i64 (pDecF b at_).2.1, .int .i64 (pDecF b at_).2.2]) := by
  have hd := dec_read b at_
  unfold VN
  refine VC.ofc (fun | 5 => [(0, []), (1, []), (2, [3]), (3, []), (4, []), (5, [])] | 6 => [(0, []), (1, []), (2, [3]), (3, []), (4, []), (5, [])] | 99999999 => [(0, [0, 1, 4, 5, 6, 7, 8, 16, 27])] | _ => []) [.cell 4 27, .tmp 5, .tmp 6] mixed Try.func43 rfl rfl rfl rfl (by decide +kernel) (by simp) ?_
  have el : (bs b).length = b.length := bs_length b
  simp only [go_sem, reduceIte, Nat.reduceEqDiff, Nat.reduceAdd, Nat.reduceSub, Nat.reduceMul, Nat.reduceLT, Nat.reduceLeDiff, Nat.reducePow, Int.reduceToNat, Int.reduceLT, Int.reduceLE, Int.reduceEq, Int.reduceNe, Int.reduceAdd, Int.reduceSub, Int.reduceMul, Int.reduceNeg]
  intro b4
  refine cd_dec (fun k => ?_) (fun k => ?_)
  · rw [if_pos k] at hd
    try simp only [go_sem, reduceIte, Nat.reduceEqDiff, Nat.reduceAdd, Nat.reduceSub, Nat.reduceMul, Nat.reduceLT, Nat.reduceLeDiff, Nat.reducePow, Int.reduceToNat, Int.reduceLT, Int.reduceLE, Int.reduceEq, Int.reduceNe, Int.reduceAdd, Int.reduceSub, Int.reduceMul, Int.reduceNeg, el]
    rw [hd]
    exact finK_drop ⟨rfl, rfl, rfl⟩
  · rw [if_neg k] at hd
    have h8 : VN P G 66 [.agg (rdC b (at_, 0)), .int .i64 0] (.tup [.agg (readF b 8 (at_, 0)).1.cells, .agg (rdC b (readF b 8 (at_, 0)).2)]) := read_ok b hb hl 8 (by omega) (at_, 0) (by dsimp only; omega)
    obtain ⟨⟨q, s⟩, hr⟩ : ∃ r, readF b 8 (at_, 0) = r := ⟨_, rfl⟩
    rw [hr] at h8 hd
    simp only [rdC] at h8
    try simp only [go_sem, reduceIte, Nat.reduceEqDiff, Nat.reduceAdd, Nat.reduceSub, Nat.reduceMul, Nat.reduceLT, Nat.reduceLeDiff, Nat.reducePow, Int.reduceToNat, Int.reduceLT, Int.reduceLE, Int.reduceEq, Int.reduceNe, Int.reduceAdd, Int.reduceSub, Int.reduceMul, Int.reduceNeg, el]
    refine cK_vn h8 ?_
    try simp only [go_sem, reduceIte, Nat.reduceEqDiff, Nat.reduceAdd, Nat.reduceSub, Nat.reduceMul, Nat.reduceLT, Nat.reduceLeDiff, Nat.reducePow, Int.reduceToNat, Int.reduceLT, Int.reduceLE, Int.reduceEq, Int.reduceNe, Int.reduceAdd, Int.reduceSub, Int.reduceMul, Int.reduceNeg, el]
    refine new_any fun b7 h7 => ?_
    simp only [set_none] at h7
    refine new_any fun b8 h8 => ?_
    simp only [set_none] at h8
    have N := And.intro h7 h8
    try simp only [go_sem, reduceIte, Nat.reduceEqDiff, Nat.reduceAdd, Nat.reduceSub, Nat.reduceMul, Nat.reduceLT, Nat.reduceLeDiff, Nat.reducePow, Int.reduceToNat, Int.reduceLT, Int.reduceLE, Int.reduceEq, Int.reduceNe, Int.reduceAdd, Int.reduceSub, Int.reduceMul, Int.reduceNeg, el, N]
    by_cases hs : s.2 = 0
    · have hs' := eq_true hs
      have hs2 : (s.2 ≠ 0) = False := eq_false (by simp [hs])
      try simp only [go_sem, reduceIte, Nat.reduceEqDiff, Nat.reduceAdd, Nat.reduceSub, Nat.reduceMul, Nat.reduceLT, Nat.reduceLeDiff, Nat.reducePow, Int.reduceToNat, Int.reduceLT, Int.reduceLE, Int.reduceEq, Int.reduceNe, Int.reduceAdd, Int.reduceSub, Int.reduceMul, Int.reduceNeg, el, N, hs', hs2, decide_false]
      rw [if_pos hs] at hd
      rw [hd]
      exact ⟨by simp [rdAdd, N], finK_drop ⟨rfl, rfl, rfl⟩⟩
    · have hs2 : (s.2 ≠ 0) = True := eq_true hs
      try simp only [go_sem, reduceIte, Nat.reduceEqDiff, Nat.reduceAdd, Nat.reduceSub, Nat.reduceMul, Nat.reduceLT, Nat.reduceLeDiff, Nat.reducePow, Int.reduceToNat, Int.reduceLT, Int.reduceLE, Int.reduceEq, Int.reduceNe, Int.reduceAdd, Int.reduceSub, Int.reduceMul, Int.reduceNeg, el, N, hs2, decide_true]
      rw [if_neg hs] at hd
      rw [hd]
      exact ⟨by simp [rdAdd, N], finK_drop ⟨rfl, rfl, rfl⟩⟩
end Go.Proofs.YtpblgfgcoamgmaaS
