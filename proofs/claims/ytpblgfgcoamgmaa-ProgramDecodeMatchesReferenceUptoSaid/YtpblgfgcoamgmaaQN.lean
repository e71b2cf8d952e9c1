/-
  Predicates: fenlandref08.read, Decode.
-/
import Derived.Test.YtpblgfgcoamgmaaQM
set_option linter.unusedVariables false
set_option linter.unusedSimpArgs false
namespace Go.Proofs.YtpblgfgcoamgmaaS
open Go Go.Proofs.YtpblgfgcoamgmaaV

variable {G : Heap}
attribute [local irreducible] VN VC VX VQ VY VW VTA VT0

theorem nulC : Pr.nul.cells = [.int .i64 0, .int .i64 0, .int .i64 0, .int .i64 0, .sl .none [], .str ByteArray.empty, .sl .none []] := rfl
theorem pr_cells7 (l : List Pr) : ∀ x ∈ l.map Pr.d, x.cells.length = 7 := fun x hx => by
  obtain ⟨y, _, rfl⟩ := List.mem_map.1 hx; rw [y.d_eq]; rfl
set_option maxRecDepth 100000 in
set_option maxHeartbeats 16000000 in
theorem read_step (b : List Nat) (hb : Byt b) (hl : b.length ≤ 1099511627776) (m : Nat) (hm : m ≤ 8) (rd : Sc → Pr × Sc) (hge : ∀ s, 0 ≤ s.1 → 0 ≤ (rd s).2.1)
    (ih : 2 ≤ m → ∀ s : Sc, 0 ≤ s.1 → VN P G 66 [.agg (rdC b s), .int .i64 (9 - (m : Int))] (.tup [.agg (rd s).1.cells, .agg (rdC b (rd s).2)])) (s : Sc) (h0 : 0 ≤ s.1) :
    VN P G 66 [.agg (rdC b s), .int .i64 (8 - (m : Int))] (.tup [.agg (readG b m rd s).1.cells, .agg (rdC b (readG b m rd s).2)]) := by
  obtain ⟨R, hR⟩ : ∃ R, readG b m rd s = R := ⟨_, rfl⟩
  rw [hR]
  unfold readG at hR
  have hB := rdByte_ok (G := G) b 7 s h0 hl
  have hBl : (bytR b 7 s).1 ≤ 7 := bytR_le
  have hBg := bytR_ge (b := b) (m := 7) h0
  have hBe := fun h => bytR_err (b := b) (m := 7) (s := s) h
  obtain ⟨⟨op, s1⟩, hT⟩ : ∃ T, bytR b 7 s = T := ⟨_, rfl⟩
  rw [hT] at hB hBl hBg hBe hR
  dsimp only at hB hBl hBg hBe hR
  clear hT
  simp only [rdC] at hB ⊢
  unfold VN
  refine VC.ofc (fun | 28 => [(0, []), (1, [2]), (2, []), (3, [])] | 99999999 => [(0, [0, 1, 2, 4, 5, 6, 7, 8, 9, 10, 11, 12, 31, 40, 41, 55, 63, 71, 91, 103, 112])] | _ => []) [.cell 4 27, .cell 5 119] mixed Try.func66 rfl rfl rfl rfl (by decide +kernel) (by simp) ?_
  simp only [go_sem, reduceIte, Nat.reduceEqDiff, Nat.reduceAdd, Nat.reduceSub, Nat.reduceMul, Nat.reduceLT, Nat.reduceLeDiff, Nat.reducePow, Int.reduceToNat, Int.reduceLT, Int.reduceLE, Int.reduceEq, Int.reduceNe, Int.reduceAdd, Int.reduceSub, Int.reduceMul, Int.reduceNeg]
  intro b2
  refine new_1 fun b4 h1 h2 => ?_
  have N := And.intro h1 h2
  refine new_any fun b5 h5 => ?_
  simp only [set_none] at h5
  have N := And.intro N h5
  clear h1 h2 h5
  try simp only [go_sem, reduceIte, Nat.reduceEqDiff, Nat.reduceAdd, Nat.reduceSub, Nat.reduceMul, Nat.reduceLT, Nat.reduceLeDiff, Nat.reducePow, Int.reduceToNat, Int.reduceLT, Int.reduceLE, Int.reduceEq, Int.reduceNe, Int.reduceAdd, Int.reduceSub, Int.reduceMul, Int.reduceNeg, N]
  refine cK_vn hB ?_
  try simp only [go_sem, reduceIte, Nat.reduceEqDiff, Nat.reduceAdd, Nat.reduceSub, Nat.reduceMul, Nat.reduceLT, Nat.reduceLeDiff, Nat.reducePow, Int.reduceToNat, Int.reduceLT, Int.reduceLE, Int.reduceEq, Int.reduceNe, Int.reduceAdd, Int.reduceSub, Int.reduceMul, Int.reduceNeg, N]
  refine new_any fun b7 h7 => ?_
  simp only [set_none] at h7
  have N := And.intro N h7
  clear h7
  try simp only [go_sem, reduceIte, Nat.reduceEqDiff, Nat.reduceAdd, Nat.reduceSub, Nat.reduceMul, Nat.reduceLT, Nat.reduceLeDiff, Nat.reducePow, Int.reduceToNat, Int.reduceLT, Int.reduceLE, Int.reduceEq, Int.reduceNe, Int.reduceAdd, Int.reduceSub, Int.reduceMul, Int.reduceNeg, N]
  refine new_any fun b8 h8 => ?_
  simp only [set_none] at h8
  have N := And.intro N h8
  clear h8
  have wop : IntKind.i64.wrap (op : Int) = op := by clear N; exact wrap_i64 (by omega) (by omega)
  try simp only [go_sem, reduceIte, Nat.reduceEqDiff, Nat.reduceAdd, Nat.reduceSub, Nat.reduceMul, Nat.reduceLT, Nat.reduceLeDiff, Nat.reducePow, Int.reduceToNat, Int.reduceLT, Int.reduceLE, Int.reduceEq, Int.reduceNe, Int.reduceAdd, Int.reduceSub, Int.reduceMul, Int.reduceNeg, N, wop]
  generalize hβ : Heap.set _ b8 _ = β0
  have e8 := hit_set hβ
  have e7 : β0 b7 = some [.sl .none (bs b), .int .i64 s1.1, .int .i64 s1.2] := by rw [← hβ]; simp [Heap.set, N]
  have e4 : β0 b4 = some [.int .i64 0, .int .i64 0, .int .i64 0, .int .i64 0, .sl .full [], .str ByteArray.empty, .sl .full []] := by rw [← hβ]; simp [Heap.set, N]
  have e5 : β0 b5 = some [.sl .full [], .int .i64 0, .int .i64 0] := by rw [← hβ]; simp [Heap.set, N]
  clear hβ hB
  by_cases he : s1.2 = 0
  · have he' := eq_true he
    have hS := rdS_ok (G := G) b s1 hb
    have hSg := nxS_ge (b := b) hBg
    simp only [rdC] at hS
    have h8 : op = 0 ∨ op = 1 ∨ op = 2 ∨ op = 3 ∨ op = 4 ∨ op = 5 ∨ op = 6 ∨ op = 7 := by clear N; omega
    rcases h8 with rfl | rfl | rfl | rfl | rfl | rfl | rfl | rfl
    all_goals simp [isAt] at hR
    all_goals try simp only [go_sem, reduceIte, Nat.reduceEqDiff, Nat.reduceAdd, Nat.reduceSub, Nat.reduceMul, Nat.reduceLT, Nat.reduceLeDiff, Nat.reducePow, Int.reduceToNat, Int.reduceLT, Int.reduceLE, Int.reduceEq, Int.reduceNe, Int.reduceAdd, Int.reduceSub, Int.reduceMul, Int.reduceNeg, N, e8, e7, e4, e5, he']
    · refine ⟨by simp [rdAdd, N], by simp [rdAdd, N], ?_⟩
      subst hR
      exact finK_drop ⟨rfl, rfl, rfl⟩
    · have hS2 := rdS_ok (G := G) b (nxS b s1).2 hb
      have hS3 := rdS_ok (G := G) b (nxS b (nxS b s1).2).2 hb
      simp only [rdC] at hS2 hS3
      refine cK_vn hS ?_
      try simp only [go_sem, reduceIte, Nat.reduceEqDiff, Nat.reduceAdd, Nat.reduceSub, Nat.reduceMul, Nat.reduceLT, Nat.reduceLeDiff, Nat.reducePow, Int.reduceToNat, Int.reduceLT, Int.reduceLE, Int.reduceEq, Int.reduceNe, Int.reduceAdd, Int.reduceSub, Int.reduceMul, Int.reduceNeg, N, e8, e7, e4, e5]
      refine cK_vn hS2 ?_
      try simp only [go_sem, reduceIte, Nat.reduceEqDiff, Nat.reduceAdd, Nat.reduceSub, Nat.reduceMul, Nat.reduceLT, Nat.reduceLeDiff, Nat.reducePow, Int.reduceToNat, Int.reduceLT, Int.reduceLE, Int.reduceEq, Int.reduceNe, Int.reduceAdd, Int.reduceSub, Int.reduceMul, Int.reduceNeg, N, e8, e7, e4, e5]
      refine cK_vn hS3 ?_
      try simp only [go_sem, reduceIte, Nat.reduceEqDiff, Nat.reduceAdd, Nat.reduceSub, Nat.reduceMul, Nat.reduceLT, Nat.reduceLeDiff, Nat.reducePow, Int.reduceToNat, Int.reduceLT, Int.reduceLE, Int.reduceEq, Int.reduceNe, Int.reduceAdd, Int.reduceSub, Int.reduceMul, Int.reduceNeg, N, e8, e7, e4, e5]
      refine ⟨by simp [rdAdd, N], by simp [rdAdd, N], ?_⟩
      subst hR
      exact finK_drop ⟨rfl, rfl, rfl⟩
    · have hE := elements_ok (G := G) b (nxS b s1).2 hb hl hSg
      simp only [rdC] at hE
      refine cK_vn hS ?_
      try simp only [go_sem, reduceIte, Nat.reduceEqDiff, Nat.reduceAdd, Nat.reduceSub, Nat.reduceMul, Nat.reduceLT, Nat.reduceLeDiff, Nat.reducePow, Int.reduceToNat, Int.reduceLT, Int.reduceLE, Int.reduceEq, Int.reduceNe, Int.reduceAdd, Int.reduceSub, Int.reduceMul, Int.reduceNeg, N, e8, e7, e4, e5]
      refine cK_vn hE ?_
      try simp only [go_sem, reduceIte, Nat.reduceEqDiff, Nat.reduceAdd, Nat.reduceSub, Nat.reduceMul, Nat.reduceLT, Nat.reduceLeDiff, Nat.reducePow, Int.reduceToNat, Int.reduceLT, Int.reduceLE, Int.reduceEq, Int.reduceNe, Int.reduceAdd, Int.reduceSub, Int.reduceMul, Int.reduceNeg, N, e8, e7, e4, e5]
      refine ⟨by simp [rdAdd, N], by simp [rdAdd, N], ?_⟩
      subst hR
      exact finK_drop ⟨rfl, rfl, rfl⟩
    · have hX := rdText_ok (G := G) b (nxS b s1).2 hb hl
      simp only [rdC] at hX
      refine cK_vn hS ?_
      try simp only [go_sem, reduceIte, Nat.reduceEqDiff, Nat.reduceAdd, Nat.reduceSub, Nat.reduceMul, Nat.reduceLT, Nat.reduceLeDiff, Nat.reducePow, Int.reduceToNat, Int.reduceLT, Int.reduceLE, Int.reduceEq, Int.reduceNe, Int.reduceAdd, Int.reduceSub, Int.reduceMul, Int.reduceNeg, N, e8, e7, e4, e5]
      refine cK_vn hX ?_
      try simp only [go_sem, reduceIte, Nat.reduceEqDiff, Nat.reduceAdd, Nat.reduceSub, Nat.reduceMul, Nat.reduceLT, Nat.reduceLeDiff, Nat.reducePow, Int.reduceToNat, Int.reduceLT, Int.reduceLE, Int.reduceEq, Int.reduceNe, Int.reduceAdd, Int.reduceSub, Int.reduceMul, Int.reduceNeg, N, e8, e7, e4, e5]
      refine ⟨by simp [rdAdd, N], by simp [rdAdd, N], ?_⟩
      subst hR
      exact finK_drop ⟨rfl, rfl, rfl⟩
    · refine cK_vn hS ?_
      try simp only [go_sem, reduceIte, Nat.reduceEqDiff, Nat.reduceAdd, Nat.reduceSub, Nat.reduceMul, Nat.reduceLT, Nat.reduceLeDiff, Nat.reducePow, Int.reduceToNat, Int.reduceLT, Int.reduceLE, Int.reduceEq, Int.reduceNe, Int.reduceAdd, Int.reduceSub, Int.reduceMul, Int.reduceNeg, N, e8, e7, e4, e5]
      refine ⟨by simp [rdAdd, N], by simp [rdAdd, N], ?_⟩
      subst hR
      exact finK_drop ⟨rfl, rfl, rfl⟩
    · have hC := rdCount_ok (G := G) b s1 hb
      have hn16 : (cntF b s1).1 ≤ 16 := cntF_le
      have hcg : 0 ≤ (cntF b s1).2.1 := cntF_ge hBg
      have hcz := fun h => cntF_err (b := b) (s := s1) h
      obtain ⟨⟨n, t0⟩, hT⟩ : ∃ T, cntF b s1 = T := ⟨_, rfl⟩
      rw [hT] at hC hn16 hcg hR hcz
      simp only [rdC] at hC
      dsimp only at hC hn16 hcg hR hcz
      clear hT hS hSg
      have em : (7 ≤ 8 - (m : Int)) = (m < 2) := by clear N; exact propext ⟨fun h => by omega, fun h => by omega⟩
      refine cK_vn hC ?_
      try simp only [go_sem, reduceIte, Nat.reduceEqDiff, Nat.reduceAdd, Nat.reduceSub, Nat.reduceMul, Nat.reduceLT, Nat.reduceLeDiff, Nat.reducePow, Int.reduceToNat, Int.reduceLT, Int.reduceLE, Int.reduceEq, Int.reduceNe, Int.reduceAdd, Int.reduceSub, Int.reduceMul, Int.reduceNeg, N, e8, e7, e4, e5, em]
      refine cd_dec (fun g0 => ?_) (fun g0 => ?_)
      · obtain ⟨⟨ga, gb⟩, gc⟩ := g0
        have hf : failS (failS t0 5 false) 2 (decide (0 < n) && decide (m < 2)) = (t0.1, 2) := by clear N; rw [failS_f]; rw [failS, if_pos ⟨ga, by simp; omega⟩]
        rw [hf] at hR
        try simp only [go_sem, reduceIte, Nat.reduceEqDiff, Nat.reduceAdd, Nat.reduceSub, Nat.reduceMul, Nat.reduceLT, Nat.reduceLeDiff, Nat.reducePow, Int.reduceToNat, Int.reduceLT, Int.reduceLE, Int.reduceEq, Int.reduceNe, Int.reduceAdd, Int.reduceSub, Int.reduceMul, Int.reduceNeg, N, e8, e7, e4, e5, em]
        generalize hβ_ : Heap.set _ b7 _ = β_
        have e8 := keep_ne hβ_ (by simp [N]) e8
        have e4 := keep_ne hβ_ (by simp [N]) e4
        have e5 := keep_ne hβ_ (by simp [N]) e5
        have e7 := hit_set hβ_
        clear hβ_
        have hz : kidsF rd n [] (t0.1, 2) = ([], (t0.1, 2)) := by
          cases n with
          | zero => rfl
          | succ n => rw [kidsF, if_neg (by simp)]
        refine vwq_loop (fun v => v.β = β_ ∧ v.ω = [] ∧ v.σ 4 = .pb b4 0 ∧ v.σ 5 = .pb b5 0 ∧ v.σ 7 = .pb b7 0 ∧ v.σ 8 = .pb b8 0 ∧ v.σ 9 = .int .i64 n ∧ v.σ 11 = .int .i64 0) (fun _ => 0) ⟨rfl, rfl, rfl, rfl, rfl, rfl, rfl, rfl⟩ ?_
        rintro σ β ω ⟨rfl, rfl, q4, q5, q7, q8, q9, q11⟩
        dsimp only at e7 e8 e4 e5 q4 q5 q7 q8 q9 q11
        try simp only [go_sem, reduceIte, Nat.reduceEqDiff, Nat.reduceAdd, Nat.reduceSub, Nat.reduceMul, Nat.reduceLT, Nat.reduceLeDiff, Nat.reducePow, Int.reduceToNat, Int.reduceLT, Int.reduceLE, Int.reduceEq, Int.reduceNe, Int.reduceAdd, Int.reduceSub, Int.reduceMul, Int.reduceNeg, N, e7, e8, e4, e5, q4, q5, q7, q8, q9, q11]
        rw [hz] at hR
        refine ⟨by simp [rdAdd, N], by simp [rdAdd, N], ?_⟩
        subst hR
        exact finK_drop ⟨rfl, rfl, rfl⟩
      · have hf : failS (failS t0 5 false) 2 (decide (0 < n) && decide (m < 2)) = t0 := by clear N; rw [failS_f]; rw [failS, if_neg (by simp; omega)]
        rw [hf] at hR
        have hm2 : 0 < n → t0.2 = 0 → 2 ≤ m := by clear N; omega
        try simp only [go_sem, reduceIte, Nat.reduceEqDiff, Nat.reduceAdd, Nat.reduceSub, Nat.reduceMul, Nat.reduceLT, Nat.reduceLeDiff, Nat.reducePow, Int.reduceToNat, Int.reduceLT, Int.reduceLE, Int.reduceEq, Int.reduceNe, Int.reduceAdd, Int.reduceSub, Int.reduceMul, Int.reduceNeg, N, e8, e7, e4, e5, em]
        generalize hβ_ : Heap.set _ b7 _ = β_
        have e8 := keep_ne hβ_ (by simp [N]) e8
        have e4 := keep_ne hβ_ (by simp [N]) e4
        have e5 := keep_ne hβ_ (by simp [N]) e5
        have e7 := hit_set hβ_
        clear hβ_
        obtain ⟨K, hK⟩ : ∃ K, kidsF rd n [] t0 = K := ⟨_, rfl⟩
        rw [hK] at hR
        refine vwq_loop (fun v => ∃ (i : Nat) (l : List Pr) (s : Sc) (t : Tk), i ≤ n ∧ l.length = i ∧ kidsF rd (n - i) l s = K ∧ 0 ≤ s.1 ∧ (0 < n → s.2 = 0 → 2 ≤ m) ∧ TW 7 t v.ω ∧ v.β b7 = some (rdC b s) ∧ v.β b8 = some [.int .i64 5, .int .i64 0, .int .i64 0, .int .i64 0, .sl .full [], .str ByteArray.empty, .sl t (l.map Pr.d)] ∧ v.β b4 = some [.int .i64 0, .int .i64 0, .int .i64 0, .int .i64 0, .sl .full [], .str ByteArray.empty, .sl .full []] ∧ v.β b5 = some [.sl .full [], .int .i64 0, .int .i64 0] ∧ v.σ 1 = .int .i64 (8 - (m : Int)) ∧ v.σ 4 = .pb b4 0 ∧ v.σ 5 = .pb b5 0 ∧ v.σ 7 = .pb b7 0 ∧ v.σ 8 = .pb b8 0 ∧ v.σ 9 = .int .i64 n ∧ v.σ 11 = .int .i64 i) (fun v => n - (ival (v.σ 11)).toNat) ⟨0, [], t0, .full, Nat.zero_le _, rfl, hK, hcg, hm2, TW.full 7, e7, e8, e4, e5, rfl, rfl, rfl, rfl, rfl, rfl, rfl⟩ ?_
        clear e7 e8 e4 e5
        rintro σ β ω ⟨i, l, s, t, hi, hll, hKs, hs0, hsm, hw, e7, e8, e4, e5, q1, q4, q5, q7, q8, q9, q11⟩
        dsimp only at hw e7 e8 e4 e5 q1 q4 q5 q7 q8 q9 q11
        simp only [rdC] at e7
        have hto := hw.ok
        have htg := hw.gone
        have eL : (l.map Pr.d).length = l.length := by simp
        have vc := pr_cells7 l
        try simp only [go_sem, reduceIte, Nat.reduceEqDiff, Nat.reduceAdd, Nat.reduceSub, Nat.reduceMul, Nat.reduceLT, Nat.reduceLeDiff, Nat.reducePow, Int.reduceToNat, Int.reduceLT, Int.reduceLE, Int.reduceEq, Int.reduceNe, Int.reduceAdd, Int.reduceSub, Int.reduceMul, Int.reduceNeg, N, e7, e8, e4, e5, q1, q4, q5, q7, q8, q9, q11]
        refine cd_dec (fun g => ?_) (fun g => ?_)
        · obtain ⟨g1, g2⟩ := g
          have wj : IntKind.i64.wrap ((i : Int) + 1) = (i : Int) + 1 := by clear N; exact wrap_i64 (by omega) (by omega)
          have wm : IntKind.i64.wrap (8 - (m : Int) + 1) = 9 - (m : Int) := by clear N; rw [wrap_i64 (by omega) (by omega)]; omega
          have h2m : 2 ≤ m := hsm (by clear N; omega) g2
          obtain ⟨k, hk⟩ : ∃ k, n - i = k + 1 := ⟨n - i - 1, by clear N; omega⟩
          rw [hk, kidsF, if_pos g2] at hKs
          have hih := ih h2m s hs0
          have hsg := hge s hs0
          obtain ⟨⟨q, s1'⟩, hq⟩ : ∃ T, rd s = T := ⟨_, rfl⟩
          rw [hq] at hih hKs hsg
          dsimp only at hih hKs hsg
          simp only [rdC] at hih
          try simp only [go_sem, reduceIte, Nat.reduceEqDiff, Nat.reduceAdd, Nat.reduceSub, Nat.reduceMul, Nat.reduceLT, Nat.reduceLeDiff, Nat.reducePow, Int.reduceToNat, Int.reduceLT, Int.reduceLE, Int.reduceEq, Int.reduceNe, Int.reduceAdd, Int.reduceSub, Int.reduceMul, Int.reduceNeg, N, e7, e8, e4, e5, q1, q4, q5, q7, q8, q9, q11]
          refine new_any fun b12 h12 => ?_
          have M7 := box_ne h12 e7
          have M8 := box_ne h12 e8
          have M4 := box_ne h12 e4
          have M5 := box_ne h12 e5
          try simp only [go_sem, reduceIte, Nat.reduceEqDiff, Nat.reduceAdd, Nat.reduceSub, Nat.reduceMul, Nat.reduceLT, Nat.reduceLeDiff, Nat.reducePow, Int.reduceToNat, Int.reduceLT, Int.reduceLE, Int.reduceEq, Int.reduceNe, Int.reduceAdd, Int.reduceSub, Int.reduceMul, Int.reduceNeg, N, M7, M8, M4, M5, e7, e8, e4, e5, q1, q4, q5, q7, q8, q9, q11, wm]
          refine cK_vn hih ?_
          try simp only [go_sem, reduceIte, Nat.reduceEqDiff, Nat.reduceAdd, Nat.reduceSub, Nat.reduceMul, Nat.reduceLT, Nat.reduceLeDiff, Nat.reducePow, Int.reduceToNat, Int.reduceLT, Int.reduceLE, Int.reduceEq, Int.reduceNe, Int.reduceAdd, Int.reduceSub, Int.reduceMul, Int.reduceNeg, N, M7, M8, M4, M5, e7, e8, e4, e5, q1, q4, q5, q7, q8, q9, q11, hto, htg, wj, eL, Pr.cells]
          refine ⟨vc, by clear N M7 M8 M4 M5; omega, fun t' _ => ⟨⟨i + 1, l ++ [q], s1', .live t' 7, by clear N M7 M8 M4 M5; omega, by simp [hll], by rw [show n - (i + 1) = k by clear N M7 M8 M4 M5; omega]; exact hKs, hsg, fun _ _ => h2m, TW.live 7 t', ?_⟩, by clear N M7 M8 M4 M5; omega⟩⟩
          exact ⟨rfl, by simp [Pr.d_eq, Pr.cells], rfl⟩
        · try simp only [go_sem, reduceIte, Nat.reduceEqDiff, Nat.reduceAdd, Nat.reduceSub, Nat.reduceMul, Nat.reduceLT, Nat.reduceLeDiff, Nat.reducePow, Int.reduceToNat, Int.reduceLT, Int.reduceLE, Int.reduceEq, Int.reduceNe, Int.reduceAdd, Int.reduceSub, Int.reduceMul, Int.reduceNeg, N, e7, e8, e4, e5, q1, q4, q5, q7, q8, q9, q11]
          have hfin : kidsF rd (n - i) l s = (l, s) := by
            clear N
            by_cases c : i < n
            · obtain ⟨k, hk⟩ : ∃ k, n - i = k + 1 := ⟨n - i - 1, by omega⟩
              rw [hk, kidsF, if_neg fun h => g ⟨by omega, h⟩]
            · rw [show n - i = 0 by omega]; rfl
          rw [hfin] at hKs
          refine ⟨by simp [rdAdd, N], by simp [rdAdd, N], ?_⟩
          subst hKs
          subst hR
          exact finK_drop ⟨rfl, rfl, rfl⟩
    · have hC := rdCount_ok (G := G) b s1 hb
      have hn16 : (cntF b s1).1 ≤ 16 := cntF_le
      have hcg : 0 ≤ (cntF b s1).2.1 := cntF_ge hBg
      have hcz := fun h => cntF_err (b := b) (s := s1) h
      obtain ⟨⟨n, t0⟩, hT⟩ : ∃ T, cntF b s1 = T := ⟨_, rfl⟩
      rw [hT] at hC hn16 hcg hR hcz
      simp only [rdC] at hC
      dsimp only at hC hn16 hcg hR hcz
      clear hT hS hSg
      have em : (7 ≤ 8 - (m : Int)) = (m < 2) := by clear N; exact propext ⟨fun h => by omega, fun h => by omega⟩
      refine cK_vn hC ?_
      try simp only [go_sem, reduceIte, Nat.reduceEqDiff, Nat.reduceAdd, Nat.reduceSub, Nat.reduceMul, Nat.reduceLT, Nat.reduceLeDiff, Nat.reducePow, Int.reduceToNat, Int.reduceLT, Int.reduceLE, Int.reduceEq, Int.reduceNe, Int.reduceAdd, Int.reduceSub, Int.reduceMul, Int.reduceNeg, N, e8, e7, e4, e5, em]
      refine cd_dec (fun g0 => ?_) (fun g0 => ?_)
      · obtain ⟨⟨ga, gb⟩, gc⟩ := g0
        have hf : failS (failS t0 5 false) 2 (decide (0 < n) && decide (m < 2)) = (t0.1, 2) := by clear N; rw [failS_f]; rw [failS, if_pos ⟨ga, by simp; omega⟩]
        rw [hf] at hR
        try simp only [go_sem, reduceIte, Nat.reduceEqDiff, Nat.reduceAdd, Nat.reduceSub, Nat.reduceMul, Nat.reduceLT, Nat.reduceLeDiff, Nat.reducePow, Int.reduceToNat, Int.reduceLT, Int.reduceLE, Int.reduceEq, Int.reduceNe, Int.reduceAdd, Int.reduceSub, Int.reduceMul, Int.reduceNeg, N, e8, e7, e4, e5, em]
        generalize hβ_ : Heap.set _ b7 _ = β_
        have e8 := keep_ne hβ_ (by simp [N]) e8
        have e4 := keep_ne hβ_ (by simp [N]) e4
        have e5 := keep_ne hβ_ (by simp [N]) e5
        have e7 := hit_set hβ_
        clear hβ_
        have hz : kidsF rd n [] (t0.1, 2) = ([], (t0.1, 2)) := by
          cases n with
          | zero => rfl
          | succ n => rw [kidsF, if_neg (by simp)]
        refine vwq_loop (fun v => v.β = β_ ∧ v.ω = [] ∧ v.σ 4 = .pb b4 0 ∧ v.σ 5 = .pb b5 0 ∧ v.σ 7 = .pb b7 0 ∧ v.σ 8 = .pb b8 0 ∧ v.σ 9 = .int .i64 n ∧ v.σ 11 = .int .i64 0) (fun _ => 0) ⟨rfl, rfl, rfl, rfl, rfl, rfl, rfl, rfl⟩ ?_
        rintro σ β ω ⟨rfl, rfl, q4, q5, q7, q8, q9, q11⟩
        dsimp only at e7 e8 e4 e5 q4 q5 q7 q8 q9 q11
        try simp only [go_sem, reduceIte, Nat.reduceEqDiff, Nat.reduceAdd, Nat.reduceSub, Nat.reduceMul, Nat.reduceLT, Nat.reduceLeDiff, Nat.reducePow, Int.reduceToNat, Int.reduceLT, Int.reduceLE, Int.reduceEq, Int.reduceNe, Int.reduceAdd, Int.reduceSub, Int.reduceMul, Int.reduceNeg, N, e7, e8, e4, e5, q4, q5, q7, q8, q9, q11]
        rw [hz] at hR
        refine ⟨by simp [rdAdd, N], by simp [rdAdd, N], ?_⟩
        subst hR
        exact finK_drop ⟨rfl, rfl, rfl⟩
      · have hf : failS (failS t0 5 false) 2 (decide (0 < n) && decide (m < 2)) = t0 := by clear N; rw [failS_f]; rw [failS, if_neg (by simp; omega)]
        rw [hf] at hR
        have hm2 : 0 < n → t0.2 = 0 → 2 ≤ m := by clear N; omega
        try simp only [go_sem, reduceIte, Nat.reduceEqDiff, Nat.reduceAdd, Nat.reduceSub, Nat.reduceMul, Nat.reduceLT, Nat.reduceLeDiff, Nat.reducePow, Int.reduceToNat, Int.reduceLT, Int.reduceLE, Int.reduceEq, Int.reduceNe, Int.reduceAdd, Int.reduceSub, Int.reduceMul, Int.reduceNeg, N, e8, e7, e4, e5, em]
        generalize hβ_ : Heap.set _ b7 _ = β_
        have e8 := keep_ne hβ_ (by simp [N]) e8
        have e4 := keep_ne hβ_ (by simp [N]) e4
        have e5 := keep_ne hβ_ (by simp [N]) e5
        have e7 := hit_set hβ_
        clear hβ_
        obtain ⟨K, hK⟩ : ∃ K, kidsF rd n [] t0 = K := ⟨_, rfl⟩
        rw [hK] at hR
        refine vwq_loop (fun v => ∃ (i : Nat) (l : List Pr) (s : Sc) (t : Tk), i ≤ n ∧ l.length = i ∧ kidsF rd (n - i) l s = K ∧ 0 ≤ s.1 ∧ (0 < n → s.2 = 0 → 2 ≤ m) ∧ TW 7 t v.ω ∧ v.β b7 = some (rdC b s) ∧ v.β b8 = some [.int .i64 6, .int .i64 0, .int .i64 0, .int .i64 0, .sl .full [], .str ByteArray.empty, .sl t (l.map Pr.d)] ∧ v.β b4 = some [.int .i64 0, .int .i64 0, .int .i64 0, .int .i64 0, .sl .full [], .str ByteArray.empty, .sl .full []] ∧ v.β b5 = some [.sl .full [], .int .i64 0, .int .i64 0] ∧ v.σ 1 = .int .i64 (8 - (m : Int)) ∧ v.σ 4 = .pb b4 0 ∧ v.σ 5 = .pb b5 0 ∧ v.σ 7 = .pb b7 0 ∧ v.σ 8 = .pb b8 0 ∧ v.σ 9 = .int .i64 n ∧ v.σ 11 = .int .i64 i) (fun v => n - (ival (v.σ 11)).toNat) ⟨0, [], t0, .full, Nat.zero_le _, rfl, hK, hcg, hm2, TW.full 7, e7, e8, e4, e5, rfl, rfl, rfl, rfl, rfl, rfl, rfl⟩ ?_
        clear e7 e8 e4 e5
        rintro σ β ω ⟨i, l, s, t, hi, hll, hKs, hs0, hsm, hw, e7, e8, e4, e5, q1, q4, q5, q7, q8, q9, q11⟩
        dsimp only at hw e7 e8 e4 e5 q1 q4 q5 q7 q8 q9 q11
        simp only [rdC] at e7
        have hto := hw.ok
        have htg := hw.gone
        have eL : (l.map Pr.d).length = l.length := by simp
        have vc := pr_cells7 l
        try simp only [go_sem, reduceIte, Nat.reduceEqDiff, Nat.reduceAdd, Nat.reduceSub, Nat.reduceMul, Nat.reduceLT, Nat.reduceLeDiff, Nat.reducePow, Int.reduceToNat, Int.reduceLT, Int.reduceLE, Int.reduceEq, Int.reduceNe, Int.reduceAdd, Int.reduceSub, Int.reduceMul, Int.reduceNeg, N, e7, e8, e4, e5, q1, q4, q5, q7, q8, q9, q11]
        refine cd_dec (fun g => ?_) (fun g => ?_)
        · obtain ⟨g1, g2⟩ := g
          have wj : IntKind.i64.wrap ((i : Int) + 1) = (i : Int) + 1 := by clear N; exact wrap_i64 (by omega) (by omega)
          have wm : IntKind.i64.wrap (8 - (m : Int) + 1) = 9 - (m : Int) := by clear N; rw [wrap_i64 (by omega) (by omega)]; omega
          have h2m : 2 ≤ m := hsm (by clear N; omega) g2
          obtain ⟨k, hk⟩ : ∃ k, n - i = k + 1 := ⟨n - i - 1, by clear N; omega⟩
          rw [hk, kidsF, if_pos g2] at hKs
          have hih := ih h2m s hs0
          have hsg := hge s hs0
          obtain ⟨⟨q, s1'⟩, hq⟩ : ∃ T, rd s = T := ⟨_, rfl⟩
          rw [hq] at hih hKs hsg
          dsimp only at hih hKs hsg
          simp only [rdC] at hih
          try simp only [go_sem, reduceIte, Nat.reduceEqDiff, Nat.reduceAdd, Nat.reduceSub, Nat.reduceMul, Nat.reduceLT, Nat.reduceLeDiff, Nat.reducePow, Int.reduceToNat, Int.reduceLT, Int.reduceLE, Int.reduceEq, Int.reduceNe, Int.reduceAdd, Int.reduceSub, Int.reduceMul, Int.reduceNeg, N, e7, e8, e4, e5, q1, q4, q5, q7, q8, q9, q11]
          refine new_any fun b12 h12 => ?_
          have M7 := box_ne h12 e7
          have M8 := box_ne h12 e8
          have M4 := box_ne h12 e4
          have M5 := box_ne h12 e5
          try simp only [go_sem, reduceIte, Nat.reduceEqDiff, Nat.reduceAdd, Nat.reduceSub, Nat.reduceMul, Nat.reduceLT, Nat.reduceLeDiff, Nat.reducePow, Int.reduceToNat, Int.reduceLT, Int.reduceLE, Int.reduceEq, Int.reduceNe, Int.reduceAdd, Int.reduceSub, Int.reduceMul, Int.reduceNeg, N, M7, M8, M4, M5, e7, e8, e4, e5, q1, q4, q5, q7, q8, q9, q11, wm]
          refine cK_vn hih ?_
          try simp only [go_sem, reduceIte, Nat.reduceEqDiff, Nat.reduceAdd, Nat.reduceSub, Nat.reduceMul, Nat.reduceLT, Nat.reduceLeDiff, Nat.reducePow, Int.reduceToNat, Int.reduceLT, Int.reduceLE, Int.reduceEq, Int.reduceNe, Int.reduceAdd, Int.reduceSub, Int.reduceMul, Int.reduceNeg, N, M7, M8, M4, M5, e7, e8, e4, e5, q1, q4, q5, q7, q8, q9, q11, hto, htg, wj, eL, Pr.cells]
          refine ⟨vc, by clear N M7 M8 M4 M5; omega, fun t' _ => ⟨⟨i + 1, l ++ [q], s1', .live t' 7, by clear N M7 M8 M4 M5; omega, by simp [hll], by rw [show n - (i + 1) = k by clear N M7 M8 M4 M5; omega]; exact hKs, hsg, fun _ _ => h2m, TW.live 7 t', ?_⟩, by clear N M7 M8 M4 M5; omega⟩⟩
          exact ⟨rfl, by simp [Pr.d_eq, Pr.cells], rfl⟩
        · try simp only [go_sem, reduceIte, Nat.reduceEqDiff, Nat.reduceAdd, Nat.reduceSub, Nat.reduceMul, Nat.reduceLT, Nat.reduceLeDiff, Nat.reducePow, Int.reduceToNat, Int.reduceLT, Int.reduceLE, Int.reduceEq, Int.reduceNe, Int.reduceAdd, Int.reduceSub, Int.reduceMul, Int.reduceNeg, N, e7, e8, e4, e5, q1, q4, q5, q7, q8, q9, q11]
          have hfin : kidsF rd (n - i) l s = (l, s) := by
            clear N
            by_cases c : i < n
            · obtain ⟨k, hk⟩ : ∃ k, n - i = k + 1 := ⟨n - i - 1, by omega⟩
              rw [hk, kidsF, if_neg fun h => g ⟨by omega, h⟩]
            · rw [show n - i = 0 by omega]; rfl
          rw [hfin] at hKs
          refine ⟨by simp [rdAdd, N], by simp [rdAdd, N], ?_⟩
          subst hKs
          subst hR
          exact finK_drop ⟨rfl, rfl, rfl⟩
    · have hC := rdCount_ok (G := G) b s1 hb
      have hn16 : (cntF b s1).1 ≤ 16 := cntF_le
      have hcg : 0 ≤ (cntF b s1).2.1 := cntF_ge hBg
      have hcz := fun h => cntF_err (b := b) (s := s1) h
      obtain ⟨⟨n, t0⟩, hT⟩ : ∃ T, cntF b s1 = T := ⟨_, rfl⟩
      rw [hT] at hC hn16 hcg hR hcz
      simp only [rdC] at hC
      dsimp only at hC hn16 hcg hR hcz
      clear hT hS hSg
      have em : (7 ≤ 8 - (m : Int)) = (m < 2) := by clear N; exact propext ⟨fun h => by omega, fun h => by omega⟩
      refine cK_vn hC ?_
      try simp only [go_sem, reduceIte, Nat.reduceEqDiff, Nat.reduceAdd, Nat.reduceSub, Nat.reduceMul, Nat.reduceLT, Nat.reduceLeDiff, Nat.reducePow, Int.reduceToNat, Int.reduceLT, Int.reduceLE, Int.reduceEq, Int.reduceNe, Int.reduceAdd, Int.reduceSub, Int.reduceMul, Int.reduceNeg, N, e8, e7, e4, e5, em]
      refine cd_dec (fun g7 => ?_) (fun g7 => ?_)
      · obtain ⟨ga, gb⟩ := g7
        have hf : failS (failS t0 5 !decide (n = 1)) 2 (decide (0 < n) && decide (m < 2)) = (t0.1, 5) := by
          clear N
          rw [show (!decide (n = 1)) = true from by simp; omega]
          rw [show failS t0 5 true = (t0.1, 5) from by rw [failS, if_pos ⟨ga, rfl⟩]]
          rw [failS, if_neg (by simp)]
        rw [hf] at hR
        try simp only [go_sem, reduceIte, Nat.reduceEqDiff, Nat.reduceAdd, Nat.reduceSub, Nat.reduceMul, Nat.reduceLT, Nat.reduceLeDiff, Nat.reducePow, Int.reduceToNat, Int.reduceLT, Int.reduceLE, Int.reduceEq, Int.reduceNe, Int.reduceAdd, Int.reduceSub, Int.reduceMul, Int.reduceNeg, N, e8, e7, e4, e5, em]
        generalize hβ_ : Heap.set _ b7 _ = β_
        have e8 := keep_ne hβ_ (by simp [N]) e8
        have e4 := keep_ne hβ_ (by simp [N]) e4
        have e5 := keep_ne hβ_ (by simp [N]) e5
        have e7 := hit_set hβ_
        clear hβ_
        have hz : kidsF rd n [] (t0.1, 5) = ([], (t0.1, 5)) := by
          cases n with
          | zero => rfl
          | succ n => rw [kidsF, if_neg (by simp)]
        refine vwq_loop (fun v => v.β = β_ ∧ v.ω = [] ∧ v.σ 4 = .pb b4 0 ∧ v.σ 5 = .pb b5 0 ∧ v.σ 7 = .pb b7 0 ∧ v.σ 8 = .pb b8 0 ∧ v.σ 9 = .int .i64 n ∧ v.σ 11 = .int .i64 0) (fun _ => 0) ⟨rfl, rfl, rfl, rfl, rfl, rfl, rfl, rfl⟩ ?_
        rintro σ β ω ⟨rfl, rfl, q4, q5, q7, q8, q9, q11⟩
        dsimp only at e7 e8 e4 e5 q4 q5 q7 q8 q9 q11
        try simp only [go_sem, reduceIte, Nat.reduceEqDiff, Nat.reduceAdd, Nat.reduceSub, Nat.reduceMul, Nat.reduceLT, Nat.reduceLeDiff, Nat.reducePow, Int.reduceToNat, Int.reduceLT, Int.reduceLE, Int.reduceEq, Int.reduceNe, Int.reduceAdd, Int.reduceSub, Int.reduceMul, Int.reduceNeg, N, e7, e8, e4, e5, q4, q5, q7, q8, q9, q11]
        rw [hz] at hR
        refine ⟨by simp [rdAdd, N], by simp [rdAdd, N], ?_⟩
        subst hR
        exact finK_drop ⟨rfl, rfl, rfl⟩
      · have h9 : failS t0 5 (!decide (n = 1)) = t0 := by
          clear N
          rw [failS, if_neg (by simp; omega)]
        try simp only [go_sem, reduceIte, Nat.reduceEqDiff, Nat.reduceAdd, Nat.reduceSub, Nat.reduceMul, Nat.reduceLT, Nat.reduceLeDiff, Nat.reducePow, Int.reduceToNat, Int.reduceLT, Int.reduceLE, Int.reduceEq, Int.reduceNe, Int.reduceAdd, Int.reduceSub, Int.reduceMul, Int.reduceNeg, N, e8, e7, e4, e5, em]
        refine cd_dec (fun g0 => ?_) (fun g0 => ?_)
        · obtain ⟨⟨ga, gb⟩, gc⟩ := g0
          have hf : failS (failS t0 5 (!decide (n = 1))) 2 (decide (0 < n) && decide (m < 2)) = (t0.1, 2) := by clear N; rw [h9]; rw [failS, if_pos ⟨ga, by simp; omega⟩]
          rw [hf] at hR
          try simp only [go_sem, reduceIte, Nat.reduceEqDiff, Nat.reduceAdd, Nat.reduceSub, Nat.reduceMul, Nat.reduceLT, Nat.reduceLeDiff, Nat.reducePow, Int.reduceToNat, Int.reduceLT, Int.reduceLE, Int.reduceEq, Int.reduceNe, Int.reduceAdd, Int.reduceSub, Int.reduceMul, Int.reduceNeg, N, e8, e7, e4, e5, em]
          generalize hβ_ : Heap.set _ b7 _ = β_
          have e8 := keep_ne hβ_ (by simp [N]) e8
          have e4 := keep_ne hβ_ (by simp [N]) e4
          have e5 := keep_ne hβ_ (by simp [N]) e5
          have e7 := hit_set hβ_
          clear hβ_
          have hz : kidsF rd n [] (t0.1, 2) = ([], (t0.1, 2)) := by
            cases n with
            | zero => rfl
            | succ n => rw [kidsF, if_neg (by simp)]
          refine vwq_loop (fun v => v.β = β_ ∧ v.ω = [] ∧ v.σ 4 = .pb b4 0 ∧ v.σ 5 = .pb b5 0 ∧ v.σ 7 = .pb b7 0 ∧ v.σ 8 = .pb b8 0 ∧ v.σ 9 = .int .i64 n ∧ v.σ 11 = .int .i64 0) (fun _ => 0) ⟨rfl, rfl, rfl, rfl, rfl, rfl, rfl, rfl⟩ ?_
          rintro σ β ω ⟨rfl, rfl, q4, q5, q7, q8, q9, q11⟩
          dsimp only at e7 e8 e4 e5 q4 q5 q7 q8 q9 q11
          try simp only [go_sem, reduceIte, Nat.reduceEqDiff, Nat.reduceAdd, Nat.reduceSub, Nat.reduceMul, Nat.reduceLT, Nat.reduceLeDiff, Nat.reducePow, Int.reduceToNat, Int.reduceLT, Int.reduceLE, Int.reduceEq, Int.reduceNe, Int.reduceAdd, Int.reduceSub, Int.reduceMul, Int.reduceNeg, N, e7, e8, e4, e5, q4, q5, q7, q8, q9, q11]
          rw [hz] at hR
          refine ⟨by simp [rdAdd, N], by simp [rdAdd, N], ?_⟩
          subst hR
          exact finK_drop ⟨rfl, rfl, rfl⟩
        · have hf : failS (failS t0 5 (!decide (n = 1))) 2 (decide (0 < n) && decide (m < 2)) = t0 := by clear N; rw [h9]; rw [failS, if_neg (by simp; omega)]
          rw [hf] at hR
          have hm2 : 0 < n → t0.2 = 0 → 2 ≤ m := by clear N; omega
          try simp only [go_sem, reduceIte, Nat.reduceEqDiff, Nat.reduceAdd, Nat.reduceSub, Nat.reduceMul, Nat.reduceLT, Nat.reduceLeDiff, Nat.reducePow, Int.reduceToNat, Int.reduceLT, Int.reduceLE, Int.reduceEq, Int.reduceNe, Int.reduceAdd, Int.reduceSub, Int.reduceMul, Int.reduceNeg, N, e8, e7, e4, e5, em]
          generalize hβ_ : Heap.set _ b7 _ = β_
          have e8 := keep_ne hβ_ (by simp [N]) e8
          have e4 := keep_ne hβ_ (by simp [N]) e4
          have e5 := keep_ne hβ_ (by simp [N]) e5
          have e7 := hit_set hβ_
          clear hβ_
          obtain ⟨K, hK⟩ : ∃ K, kidsF rd n [] t0 = K := ⟨_, rfl⟩
          rw [hK] at hR
          refine vwq_loop (fun v => ∃ (i : Nat) (l : List Pr) (s : Sc) (t : Tk), i ≤ n ∧ l.length = i ∧ kidsF rd (n - i) l s = K ∧ 0 ≤ s.1 ∧ (0 < n → s.2 = 0 → 2 ≤ m) ∧ TW 7 t v.ω ∧ v.β b7 = some (rdC b s) ∧ v.β b8 = some [.int .i64 7, .int .i64 0, .int .i64 0, .int .i64 0, .sl .full [], .str ByteArray.empty, .sl t (l.map Pr.d)] ∧ v.β b4 = some [.int .i64 0, .int .i64 0, .int .i64 0, .int .i64 0, .sl .full [], .str ByteArray.empty, .sl .full []] ∧ v.β b5 = some [.sl .full [], .int .i64 0, .int .i64 0] ∧ v.σ 1 = .int .i64 (8 - (m : Int)) ∧ v.σ 4 = .pb b4 0 ∧ v.σ 5 = .pb b5 0 ∧ v.σ 7 = .pb b7 0 ∧ v.σ 8 = .pb b8 0 ∧ v.σ 9 = .int .i64 n ∧ v.σ 11 = .int .i64 i) (fun v => n - (ival (v.σ 11)).toNat) ⟨0, [], t0, .full, Nat.zero_le _, rfl, hK, hcg, hm2, TW.full 7, e7, e8, e4, e5, rfl, rfl, rfl, rfl, rfl, rfl, rfl⟩ ?_
          clear e7 e8 e4 e5
          rintro σ β ω ⟨i, l, s, t, hi, hll, hKs, hs0, hsm, hw, e7, e8, e4, e5, q1, q4, q5, q7, q8, q9, q11⟩
          dsimp only at hw e7 e8 e4 e5 q1 q4 q5 q7 q8 q9 q11
          simp only [rdC] at e7
          have hto := hw.ok
          have htg := hw.gone
          have eL : (l.map Pr.d).length = l.length := by simp
          have vc := pr_cells7 l
          try simp only [go_sem, reduceIte, Nat.reduceEqDiff, Nat.reduceAdd, Nat.reduceSub, Nat.reduceMul, Nat.reduceLT, Nat.reduceLeDiff, Nat.reducePow, Int.reduceToNat, Int.reduceLT, Int.reduceLE, Int.reduceEq, Int.reduceNe, Int.reduceAdd, Int.reduceSub, Int.reduceMul, Int.reduceNeg, N, e7, e8, e4, e5, q1, q4, q5, q7, q8, q9, q11]
          refine cd_dec (fun g => ?_) (fun g => ?_)
          · obtain ⟨g1, g2⟩ := g
            have wj : IntKind.i64.wrap ((i : Int) + 1) = (i : Int) + 1 := by clear N; exact wrap_i64 (by omega) (by omega)
            have wm : IntKind.i64.wrap (8 - (m : Int) + 1) = 9 - (m : Int) := by clear N; rw [wrap_i64 (by omega) (by omega)]; omega
            have h2m : 2 ≤ m := hsm (by clear N; omega) g2
            obtain ⟨k, hk⟩ : ∃ k, n - i = k + 1 := ⟨n - i - 1, by clear N; omega⟩
            rw [hk, kidsF, if_pos g2] at hKs
            have hih := ih h2m s hs0
            have hsg := hge s hs0
            obtain ⟨⟨q, s1'⟩, hq⟩ : ∃ T, rd s = T := ⟨_, rfl⟩
            rw [hq] at hih hKs hsg
            dsimp only at hih hKs hsg
            simp only [rdC] at hih
            try simp only [go_sem, reduceIte, Nat.reduceEqDiff, Nat.reduceAdd, Nat.reduceSub, Nat.reduceMul, Nat.reduceLT, Nat.reduceLeDiff, Nat.reducePow, Int.reduceToNat, Int.reduceLT, Int.reduceLE, Int.reduceEq, Int.reduceNe, Int.reduceAdd, Int.reduceSub, Int.reduceMul, Int.reduceNeg, N, e7, e8, e4, e5, q1, q4, q5, q7, q8, q9, q11]
            refine new_any fun b12 h12 => ?_
            have M7 := box_ne h12 e7
            have M8 := box_ne h12 e8
            have M4 := box_ne h12 e4
            have M5 := box_ne h12 e5
            try simp only [go_sem, reduceIte, Nat.reduceEqDiff, Nat.reduceAdd, Nat.reduceSub, Nat.reduceMul, Nat.reduceLT, Nat.reduceLeDiff, Nat.reducePow, Int.reduceToNat, Int.reduceLT, Int.reduceLE, Int.reduceEq, Int.reduceNe, Int.reduceAdd, Int.reduceSub, Int.reduceMul, Int.reduceNeg, N, M7, M8, M4, M5, e7, e8, e4, e5, q1, q4, q5, q7, q8, q9, q11, wm]
            refine cK_vn hih ?_
            try simp only [go_sem, reduceIte, Nat.reduceEqDiff, Nat.reduceAdd, Nat.reduceSub, Nat.reduceMul, Nat.reduceLT, Nat.reduceLeDiff, Nat.reducePow, Int.reduceToNat, Int.reduceLT, Int.reduceLE, Int.reduceEq, Int.reduceNe, Int.reduceAdd, Int.reduceSub, Int.reduceMul, Int.reduceNeg, N, M7, M8, M4, M5, e7, e8, e4, e5, q1, q4, q5, q7, q8, q9, q11, hto, htg, wj, eL, Pr.cells]
            refine ⟨vc, by clear N M7 M8 M4 M5; omega, fun t' _ => ⟨⟨i + 1, l ++ [q], s1', .live t' 7, by clear N M7 M8 M4 M5; omega, by simp [hll], by rw [show n - (i + 1) = k by clear N M7 M8 M4 M5; omega]; exact hKs, hsg, fun _ _ => h2m, TW.live 7 t', ?_⟩, by clear N M7 M8 M4 M5; omega⟩⟩
            exact ⟨rfl, by simp [Pr.d_eq, Pr.cells], rfl⟩
          · try simp only [go_sem, reduceIte, Nat.reduceEqDiff, Nat.reduceAdd, Nat.reduceSub, Nat.reduceMul, Nat.reduceLT, Nat.reduceLeDiff, Nat.reducePow, Int.reduceToNat, Int.reduceLT, Int.reduceLE, Int.reduceEq, Int.reduceNe, Int.reduceAdd, Int.reduceSub, Int.reduceMul, Int.reduceNeg, N, e7, e8, e4, e5, q1, q4, q5, q7, q8, q9, q11]
            have hfin : kidsF rd (n - i) l s = (l, s) := by
              clear N
              by_cases c : i < n
              · obtain ⟨k, hk⟩ : ∃ k, n - i = k + 1 := ⟨n - i - 1, by omega⟩
                rw [hk, kidsF, if_neg fun h => g ⟨by omega, h⟩]
              · rw [show n - i = 0 by omega]; rfl
            rw [hfin] at hKs
            refine ⟨by simp [rdAdd, N], by simp [rdAdd, N], ?_⟩
            subst hKs
            subst hR
            exact finK_drop ⟨rfl, rfl, rfl⟩
  · have h00 := hBe he
    subst h00
    have he' := eq_false he
    simp [isAt] at hR
    try simp only [go_sem, reduceIte, Nat.reduceEqDiff, Nat.reduceAdd, Nat.reduceSub, Nat.reduceMul, Nat.reduceLT, Nat.reduceLeDiff, Nat.reducePow, Int.reduceToNat, Int.reduceLT, Int.reduceLE, Int.reduceEq, Int.reduceNe, Int.reduceAdd, Int.reduceSub, Int.reduceMul, Int.reduceNeg, N, e8, e7, e4, e5, he']
    refine ⟨by simp [rdAdd, N], by simp [rdAdd, N], ?_⟩
    subst hR
    exact finK_drop ⟨rfl, rfl, rfl⟩
end Go.Proofs.YtpblgfgcoamgmaaS
