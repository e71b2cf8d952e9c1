import Derived.Test.YtgkfcgfobckaaaaP6
import Derived.Test.YtgkfcgfobckaaaaP7
import Derived.Test.YtgkfcgfobckaaaaPL
set_option linter.unusedVariables false
set_option linter.unusedSimpArgs false
namespace Go.Proofs.YtgkfcgfobckaaaaS
open Go Go.Proofs.YtgkfcgfobckaaaaV

variable {G : Heap}
attribute [local irreducible] VN VC VX VQ

set_option maxHeartbeats 4000000 in
theorem complete_ok (l : List En) (p : Pr) (r : Rw) (hp : p.Lim) : VN P G 5 [.sl .none (l.map En.d), .agg p.cells, .agg [.sl .none (r.map clD)]] (.bool true) := by
  have hs := sanity_ok (G := G)
  have hli := LightL_ok (G := G) l
  have hsm := Small_ok (G := G) p 100
  have hma := Match_ok (G := G) r p hp
  unfold VN
  refine VC.ofs (fun | 4 => [(0, []), (1, []), (3, []), (4, [2]), (2, [6]), (5, [6]), (6, []), (7, []), (8, [])] | 18 => [(0, []), (1, []), (2, []), (3, []), (4, []), (5, []), (6, []), (7, []), (8, []), (9, []), (10, []), (11, []), (12, []), (13, []), (14, []), (15, []), (16, []), (17, []), (18, []), (19, []), (20, []), (21, []), (22, []), (23, [])] | 99999999 => [(0, [0, 1, 2, 4, 5, 6, 7, 8, 9, 10, 11, 12, 13, 14, 29, 61, 65, 82, 105, 131])] | _ => []) [6] mixed Try.func5 rfl rfl rfl rfl (by decide +kernel) (by simp) ?_
  have el : (l.map En.d).length = l.length := by simp
  simp only [go_sem, reduceIte, Nat.reduceEqDiff, Nat.reduceAdd, Nat.reduceSub, Nat.reduceMul, Nat.reduceLT, Nat.reduceLeDiff, Nat.reducePow, Int.reduceToNat, Int.reduceLT, Int.reduceLE, Int.reduceEq, Int.reduceNe, Int.reduceAdd, Int.reduceSub, Int.reduceMul, Int.reduceNeg]
  intro b4
  refine new_1 fun b5 n1 n2 => ?_
  try simp only [go_sem, reduceIte, Nat.reduceEqDiff, Nat.reduceAdd, Nat.reduceSub, Nat.reduceMul, Nat.reduceLT, Nat.reduceLeDiff, Nat.reducePow, Int.reduceToNat, Int.reduceLT, Int.reduceLE, Int.reduceEq, Int.reduceNe, Int.reduceAdd, Int.reduceSub, Int.reduceMul, Int.reduceNeg, n1, n2]
  refine cK_vn hs ?_
  try simp only [go_sem, reduceIte, Nat.reduceEqDiff, Nat.reduceAdd, Nat.reduceSub, Nat.reduceMul, Nat.reduceLT, Nat.reduceLeDiff, Nat.reducePow, Int.reduceToNat, Int.reduceLT, Int.reduceLE, Int.reduceEq, Int.reduceNe, Int.reduceAdd, Int.reduceSub, Int.reduceMul, Int.reduceNeg, n1, n2, p.take7, p.obj, p.len7]
  refine cK_vx hli ?_
  rintro _ ⟨b, rfl, hb⟩
  cases b
  · try simp only [go_sem, reduceIte, Nat.reduceEqDiff, Nat.reduceAdd, Nat.reduceSub, Nat.reduceMul, Nat.reduceLT, Nat.reduceLeDiff, Nat.reducePow, Int.reduceToNat, Int.reduceLT, Int.reduceLE, Int.reduceEq, Int.reduceNe, Int.reduceAdd, Int.reduceSub, Int.reduceMul, Int.reduceNeg, n1, n2, p.take7, p.obj, p.len7]
    exact finK_drop ⟨rfl, rfl, rfl⟩
  · try simp only [go_sem, reduceIte, Nat.reduceEqDiff, Nat.reduceAdd, Nat.reduceSub, Nat.reduceMul, Nat.reduceLT, Nat.reduceLeDiff, Nat.reducePow, Int.reduceToNat, Int.reduceLT, Int.reduceLE, Int.reduceEq, Int.reduceNe, Int.reduceAdd, Int.reduceSub, Int.reduceMul, Int.reduceNeg, n1, n2, p.take7, p.obj, p.len7]
    obtain ⟨hl, hc⟩ := hb rfl
    refine cK_vx hsm ?_
    rintro _ ⟨b, rfl⟩
    cases b
    · try simp only [go_sem, reduceIte, Nat.reduceEqDiff, Nat.reduceAdd, Nat.reduceSub, Nat.reduceMul, Nat.reduceLT, Nat.reduceLeDiff, Nat.reducePow, Int.reduceToNat, Int.reduceLT, Int.reduceLE, Int.reduceEq, Int.reduceNe, Int.reduceAdd, Int.reduceSub, Int.reduceMul, Int.reduceNeg, n1, n2, p.take7, p.obj, p.len7]
      exact finK_drop ⟨rfl, rfl, rfl⟩
    · try simp only [go_sem, reduceIte, Nat.reduceEqDiff, Nat.reduceAdd, Nat.reduceSub, Nat.reduceMul, Nat.reduceLT, Nat.reduceLeDiff, Nat.reducePow, Int.reduceToNat, Int.reduceLT, Int.reduceLE, Int.reduceEq, Int.reduceNe, Int.reduceAdd, Int.reduceSub, Int.reduceMul, Int.reduceNeg, n1, n2, p.take7, p.obj, p.len7]
      generalize hβ : Heap.set _ b5 _ = β0
      have e4 : β0 b4 = some p.cells := by rw [← hβ]; simp [Heap.set, n1, n2]
      have e5 : β0 b5 = some [.sl .none (r.map clD)] := by rw [← hβ]; simp [Heap.set, n1, n2]
      clear hβ
      refine cd_dec (fun k => ?_) (fun k => ?_)
      · try simp only [go_sem, reduceIte, Nat.reduceEqDiff, Nat.reduceAdd, Nat.reduceSub, Nat.reduceMul, Nat.reduceLT, Nat.reduceLeDiff, Nat.reducePow, Int.reduceToNat, Int.reduceLT, Int.reduceLE, Int.reduceEq, Int.reduceNe, Int.reduceAdd, Int.reduceSub, Int.reduceMul, Int.reduceNeg, n1, n2, p.take7, p.obj, p.len7]
        exact finK_drop ⟨rfl, rfl, rfl⟩
      have hsc := Scan_ok (G := G) l p hl hc hp
      have hke := Keep_ok (G := G) l p hl hp
      have lk : (keepF l p).length = l.length := keepF_len l p
      have hks : ∀ (i : Nat) (e : En), l[i]? = some e → (keepF l p).getD i false = mayT e.su p := fun i e h => by
        rw [List.getD, keepF_at p h]; rfl
      simp only [plF, Pl.cells] at hsc
      generalize keepF l p = ks at *
      have lks : (ks.map boD).length = l.length := by simp [lk]
      have lr : ((rdL ks l.length).map iD).length = (rdL ks l.length).length := by simp
      have ls : ((skL ks l.length).map iD).length = (skL ks l.length).length := by simp
      have hrs := rd_sk ks l.length
      have hrs' : ((rdL ks l.length).length : Int) + (skL ks l.length).length = l.length := by omega
      have wrs := wrap_i64 (x := ((rdL ks l.length).length : Int) + (skL ks l.length).length) (by omega) (by omega)
      rw [hrs'] at wrs
      try simp only [go_sem, reduceIte, Nat.reduceEqDiff, Nat.reduceAdd, Nat.reduceSub, Nat.reduceMul, Nat.reduceLT, Nat.reduceLeDiff, Nat.reducePow, Int.reduceToNat, Int.reduceLT, Int.reduceLE, Int.reduceEq, Int.reduceNe, Int.reduceAdd, Int.reduceSub, Int.reduceMul, Int.reduceNeg, n1, n2, e4, e5, p.take7, p.obj, p.len7]
      refine cE_vn hsc ?_
      try simp only [go_sem, reduceIte, Nat.reduceEqDiff, Nat.reduceAdd, Nat.reduceSub, Nat.reduceMul, Nat.reduceLT, Nat.reduceLeDiff, Nat.reducePow, Int.reduceToNat, Int.reduceLT, Int.reduceLE, Int.reduceEq, Int.reduceNe, Int.reduceAdd, Int.reduceSub, Int.reduceMul, Int.reduceNeg, n1, n2, e4, e5, p.take7, p.obj, p.len7]
      refine cE_vn hke ?_
      try simp only [go_sem, reduceIte, Nat.reduceEqDiff, Nat.reduceAdd, Nat.reduceSub, Nat.reduceMul, Nat.reduceLT, Nat.reduceLeDiff, Nat.reducePow, Int.reduceToNat, Int.reduceLT, Int.reduceLE, Int.reduceEq, Int.reduceNe, Int.reduceAdd, Int.reduceSub, Int.reduceMul, Int.reduceNeg, n1, n2, e4, e5, p.take7, p.obj, p.len7]
      refine new_any fun b8 h8 => ?_
      have m4 := box_ne h8 e4
      have m5 := box_ne h8 e5
      refine ⟨by simp [rdAdd, m4], ?_⟩
      try simp only [go_sem, reduceIte, Nat.reduceEqDiff, Nat.reduceAdd, Nat.reduceSub, Nat.reduceMul, Nat.reduceLT, Nat.reduceLeDiff, Nat.reducePow, Int.reduceToNat, Int.reduceLT, Int.reduceLE, Int.reduceEq, Int.reduceNe, Int.reduceAdd, Int.reduceSub, Int.reduceMul, Int.reduceNeg, m4, m5, e4, e5, el, lks, lr, ls, hrs', wrs, lk, ne_eq, not_true_eq_false, or_self, decide_false]
      generalize hβ : Heap.set _ b8 _ = β1
      have f4 : β1 b4 = some p.cells := by rw [← hβ]; simp [Heap.set, m4, e4]
      have f5 : β1 b5 = some [.sl .none (r.map clD)] := by rw [← hβ]; simp [Heap.set, m5, e5]
      have f8 : β1 b8 = some [.sl .none ((rdL ks l.length).map iD), .sl .none ((skL ks l.length).map iD), .int .i64 (rdL ks l.length).length, .int .i64 (byL l ks l.length)] := by rw [← hβ]; simp [Heap.set]
      clear hβ hsc hke h8
      have hby : ∀ j : Nat, j ≤ 60 → -9223372036854775808 ≤ byL l ks j ∧ byL l ks j < 9223372036854775808 := fun j hj => by
        have := byL_bd hc ks j
        have : (j : Int) * 2000000000000 ≤ 60 * 2000000000000 := by omega
        omega
      refine vwq_loop (fun v => ∃ (j : Nat), j ≤ l.length ∧ v.σ 0 = .sl .none (l.map En.d) ∧ v.σ 4 = .pb b4 0 ∧ v.σ 5 = .pb b5 0 ∧ v.σ 7 = .bool true ∧ v.σ 8 = .pb b8 0 ∧ v.σ 9 = .sl .none (ks.map boD) ∧ v.σ 10 = .int .i64 (rdL ks j).length ∧ v.σ 11 = .int .i64 (skL ks j).length ∧ v.σ 12 = .int .i64 (byL l ks j) ∧ v.σ 13 = .int .i64 j ∧ v.β = β1 ∧ v.ω = []) (fun v => l.length - (ival (v.σ 13)).toNat) ⟨0, by omega, rfl, rfl, rfl, rfl, rfl, rfl, rfl, rfl, rfl, rfl, rfl, rfl⟩ ?_
      rintro σ β ω ⟨j, hj, q0, q4, q5, q7, q8, q9, q10, q11, q12, q13, rfl, rfl⟩
      dsimp only at q0 q4 q5 q7 q8 q9 q10 q11 q12 q13 f4 f5 f8
      try simp only [go_sem, reduceIte, Nat.reduceEqDiff, Nat.reduceAdd, Nat.reduceSub, Nat.reduceMul, Nat.reduceLT, Nat.reduceLeDiff, Nat.reducePow, Int.reduceToNat, Int.reduceLT, Int.reduceLE, Int.reduceEq, Int.reduceNe, Int.reduceAdd, Int.reduceSub, Int.reduceMul, Int.reduceNeg, q0, q4, q5, q7, q8, q9, q10, q11, q12, q13, el]
      refine cd_dec (fun g => ?_) (fun g => ?_)
      · have g' := eq_true g
        have gj : j < l.length := by omega
        obtain ⟨x, hx, ex⟩ := En_at (l := l) (j := j) gj
        have hxc := hc x (List.mem_of_getElem? hx)
        have hkj := hks j x hx
        have c1 : ((0 : Int) ≤ j) = True := eq_true (by omega)
        have wj := wrap_i64 (x := (j : Int) + 1) (by omega) (by omega)
        have hco := Cost_ok (G := G) x hxc
        have hcv := refCovers_ok (G := G) x.su r
        have hkb : (ks.map boD).getD j .any = .bool (ks.getD j false) := boD_at (by omega)
        have c2 : ((0 : Int) ≤ (rdL ks j).length) = True := eq_true (by omega)
        have c3 : ((0 : Int) ≤ (skL ks j).length) = True := eq_true (by omega)
        have br := rdL_le ks j
        have bs := skL_le ks j
        have w1 := wrap_i64 (x := ((rdL ks j).length : Int) + 1) (by omega) (by omega)
        have w2 := wrap_i64 (x := ((skL ks j).length : Int) + 1) (by omega) (by omega)
        cases hk : ks.getD j false
        · rw [hk] at hkj
          obtain ⟨s1, s2⟩ := skL_hit gj hk
          have sx : ((skL ks l.length).map iD).getD (skL ks j).length .any = .int .i64 j := by rw [iD_at s1, s2]
          have s1' : (((skL ks j).length : Int) < (skL ks l.length).length) = True := eq_true (by omega)
          have hcm : coversF x.su r = true → matchF p r = false := fun h => by
            unfold matchF
            rw [decide_eq_false]
            intro he
            have := may_match h he
            rw [← hkj] at this; cases this
          have e10 : rdL ks (j + 1) = rdL ks j := rdL_no hk
          have e11 : skL ks (j + 1) = skL ks j ++ [(j : Int)] := skL_no hk
          have e12 : byL l ks (j + 1) = byL l ks j := byL_no hk
          by_cases hx2 : (rdL ks j).length < (rdL ks l.length).length
          · have r1 : (((rdL ks j).length : Int) < (rdL ks l.length).length) = True := eq_true (by omega)
            have r2 : ((rdL ks l.length).map iD).getD (rdL ks j).length .any = .int .i64 ((rdL ks l.length).getD (rdL ks j).length 0) := iD_at hx2
            have r3 : ((rdL ks l.length).getD (rdL ks j).length 0 = (j : Int)) = False := eq_false (rdL_miss hk hx2)
            try simp only [go_sem, reduceIte, Nat.reduceEqDiff, Nat.reduceAdd, Nat.reduceSub, Nat.reduceMul, Nat.reduceLT, Nat.reduceLeDiff, Nat.reducePow, Int.reduceToNat, Int.reduceLT, Int.reduceLE, Int.reduceEq, Int.reduceNe, Int.reduceAdd, Int.reduceSub, Int.reduceMul, Int.reduceNeg, q0, q4, q5, q7, q8, q9, q10, q11, q12, q13, el, ex, g', c1, c2, c3, f4, f5, f8, x.length, x.take, x.obj, x.one, lr, ls, lks, s1', sx, hkb, hk, r1, r2, r3, w1, w2, wj, decide_true, decide_false]
            refine ⟨by rw [List.length_drop, x.length]; omega, ?_⟩
            rw [x.sum]
            refine cE_vn hcv ?_
            cases hb : coversF x.su r
            · rw [hb] at hcm
              try simp only [go_sem, reduceIte, Nat.reduceEqDiff, Nat.reduceAdd, Nat.reduceSub, Nat.reduceMul, Nat.reduceLT, Nat.reduceLeDiff, Nat.reducePow, Int.reduceToNat, Int.reduceLT, Int.reduceLE, Int.reduceEq, Int.reduceNe, Int.reduceAdd, Int.reduceSub, Int.reduceMul, Int.reduceNeg, q0, q4, q5, q7, q8, q9, q10, q11, q12, q13, el, ex, g', c1, c2, c3, f4, f5, f8, x.length, x.take, x.obj, x.one, lr, ls, lks, w1, w2, wj, decide_true, decide_false, p.take7, p.obj, p.len7, x.sum, hkb, hk]
              exact ⟨⟨j + 1, by omega, by rw [e10], by rw [e11, List.length_append]; simp, by rw [e12], rfl⟩, by omega⟩
            · have hma' := hma
              rw [hcm hb] at hma'
              try simp only [go_sem, reduceIte, Nat.reduceEqDiff, Nat.reduceAdd, Nat.reduceSub, Nat.reduceMul, Nat.reduceLT, Nat.reduceLeDiff, Nat.reducePow, Int.reduceToNat, Int.reduceLT, Int.reduceLE, Int.reduceEq, Int.reduceNe, Int.reduceAdd, Int.reduceSub, Int.reduceMul, Int.reduceNeg, q0, q4, q5, q7, q8, q9, q10, q11, q12, q13, el, ex, g', c1, c2, c3, f4, f5, f8, x.length, x.take, x.obj, x.one, lr, ls, lks, w1, w2, wj, decide_true, decide_false, p.take7, p.obj, p.len7, x.sum, hkb, hk]
              refine cE_vn hma' ?_
              try simp only [go_sem, reduceIte, Nat.reduceEqDiff, Nat.reduceAdd, Nat.reduceSub, Nat.reduceMul, Nat.reduceLT, Nat.reduceLeDiff, Nat.reducePow, Int.reduceToNat, Int.reduceLT, Int.reduceLE, Int.reduceEq, Int.reduceNe, Int.reduceAdd, Int.reduceSub, Int.reduceMul, Int.reduceNeg, q0, q4, q5, q7, q8, q9, q10, q11, q12, q13, el, ex, g', c1, c2, c3, f4, f5, f8, x.length, x.take, x.obj, x.one, lr, ls, lks, w1, w2, wj, decide_true, decide_false, p.take7, p.obj, p.len7, x.sum, hkb, hk]
              exact ⟨⟨j + 1, by omega, by rw [e10], by rw [e11, List.length_append]; simp, by rw [e12], rfl⟩, by omega⟩
          · have r1 : (((rdL ks j).length : Int) < (rdL ks l.length).length) = False := eq_false (by omega)
            try simp only [go_sem, reduceIte, Nat.reduceEqDiff, Nat.reduceAdd, Nat.reduceSub, Nat.reduceMul, Nat.reduceLT, Nat.reduceLeDiff, Nat.reducePow, Int.reduceToNat, Int.reduceLT, Int.reduceLE, Int.reduceEq, Int.reduceNe, Int.reduceAdd, Int.reduceSub, Int.reduceMul, Int.reduceNeg, q0, q4, q5, q7, q8, q9, q10, q11, q12, q13, el, ex, g', c1, c2, c3, f4, f5, f8, x.length, x.take, x.obj, x.one, lr, ls, lks, s1', sx, hkb, hk, r1, w1, w2, wj, decide_true, decide_false]
            refine ⟨by rw [List.length_drop, x.length]; omega, ?_⟩
            rw [x.sum]
            refine cE_vn hcv ?_
            cases hb : coversF x.su r
            · rw [hb] at hcm
              try simp only [go_sem, reduceIte, Nat.reduceEqDiff, Nat.reduceAdd, Nat.reduceSub, Nat.reduceMul, Nat.reduceLT, Nat.reduceLeDiff, Nat.reducePow, Int.reduceToNat, Int.reduceLT, Int.reduceLE, Int.reduceEq, Int.reduceNe, Int.reduceAdd, Int.reduceSub, Int.reduceMul, Int.reduceNeg, q0, q4, q5, q7, q8, q9, q10, q11, q12, q13, el, ex, g', c1, c2, c3, f4, f5, f8, x.length, x.take, x.obj, x.one, lr, ls, lks, w1, w2, wj, decide_true, decide_false, p.take7, p.obj, p.len7, x.sum, hkb, hk]
              exact ⟨⟨j + 1, by omega, by rw [e10], by rw [e11, List.length_append]; simp, by rw [e12], rfl⟩, by omega⟩
            · have hma' := hma
              rw [hcm hb] at hma'
              try simp only [go_sem, reduceIte, Nat.reduceEqDiff, Nat.reduceAdd, Nat.reduceSub, Nat.reduceMul, Nat.reduceLT, Nat.reduceLeDiff, Nat.reducePow, Int.reduceToNat, Int.reduceLT, Int.reduceLE, Int.reduceEq, Int.reduceNe, Int.reduceAdd, Int.reduceSub, Int.reduceMul, Int.reduceNeg, q0, q4, q5, q7, q8, q9, q10, q11, q12, q13, el, ex, g', c1, c2, c3, f4, f5, f8, x.length, x.take, x.obj, x.one, lr, ls, lks, w1, w2, wj, decide_true, decide_false, p.take7, p.obj, p.len7, x.sum, hkb, hk]
              refine cE_vn hma' ?_
              try simp only [go_sem, reduceIte, Nat.reduceEqDiff, Nat.reduceAdd, Nat.reduceSub, Nat.reduceMul, Nat.reduceLT, Nat.reduceLeDiff, Nat.reducePow, Int.reduceToNat, Int.reduceLT, Int.reduceLE, Int.reduceEq, Int.reduceNe, Int.reduceAdd, Int.reduceSub, Int.reduceMul, Int.reduceNeg, q0, q4, q5, q7, q8, q9, q10, q11, q12, q13, el, ex, g', c1, c2, c3, f4, f5, f8, x.length, x.take, x.obj, x.one, lr, ls, lks, w1, w2, wj, decide_true, decide_false, p.take7, p.obj, p.len7, x.sum, hkb, hk]
              exact ⟨⟨j + 1, by omega, by rw [e10], by rw [e11, List.length_append]; simp, by rw [e12], rfl⟩, by omega⟩
        · have e10 : rdL ks (j + 1) = rdL ks j ++ [(j : Int)] := rdL_yes hk
          have e11 : skL ks (j + 1) = skL ks j := skL_yes hk
          have e12 : byL l ks (j + 1) = byL l ks j + costF x := byL_yes hk hx
          have w4 := wrap_i64 (hby (j + 1) (by omega)).1 (hby (j + 1) (by omega)).2
          rw [e12] at w4
          obtain ⟨s1, s2⟩ := rdL_hit gj hk
          have sx : ((rdL ks l.length).map iD).getD (rdL ks j).length .any = .int .i64 j := by rw [iD_at s1, s2]
          have s1' : (((rdL ks j).length : Int) < (rdL ks l.length).length) = True := eq_true (by omega)
          try simp only [go_sem, reduceIte, Nat.reduceEqDiff, Nat.reduceAdd, Nat.reduceSub, Nat.reduceMul, Nat.reduceLT, Nat.reduceLeDiff, Nat.reducePow, Int.reduceToNat, Int.reduceLT, Int.reduceLE, Int.reduceEq, Int.reduceNe, Int.reduceAdd, Int.reduceSub, Int.reduceMul, Int.reduceNeg, q0, q4, q5, q7, q8, q9, q10, q11, q12, q13, el, ex, g', c1, c2, c3, f4, f5, f8, x.length, x.take, x.obj, x.one, lr, ls, lks, w1, w2, wj, decide_true, decide_false, p.take7, p.obj, p.len7, x.sum, hkb, hk, s1', sx, w4]
          refine cK_vn hco ?_
          try simp only [go_sem, reduceIte, Nat.reduceEqDiff, Nat.reduceAdd, Nat.reduceSub, Nat.reduceMul, Nat.reduceLT, Nat.reduceLeDiff, Nat.reducePow, Int.reduceToNat, Int.reduceLT, Int.reduceLE, Int.reduceEq, Int.reduceNe, Int.reduceAdd, Int.reduceSub, Int.reduceMul, Int.reduceNeg, q0, q4, q5, q7, q8, q9, q10, q11, q12, q13, el, ex, g', c1, c2, c3, f4, f5, f8, x.length, x.take, x.obj, x.one, lr, ls, lks, w1, w2, wj, decide_true, decide_false, p.take7, p.obj, p.len7, x.sum, hkb, hk, s1', sx, w4]
          exact ⟨⟨j + 1, by omega, by rw [e10, List.length_append]; simp, by rw [e11], by rw [e12], rfl⟩, by omega⟩
      · try simp only [go_sem, reduceIte, Nat.reduceEqDiff, Nat.reduceAdd, Nat.reduceSub, Nat.reduceMul, Nat.reduceLT, Nat.reduceLeDiff, Nat.reducePow, Int.reduceToNat, Int.reduceLT, Int.reduceLE, Int.reduceEq, Int.reduceNe, Int.reduceAdd, Int.reduceSub, Int.reduceMul, Int.reduceNeg, q0, q4, q5, q7, q8, q9, q10, q11, q12, q13, el]
        obtain rfl : j = l.length := by omega
        try simp only [go_sem, reduceIte, Nat.reduceEqDiff, Nat.reduceAdd, Nat.reduceSub, Nat.reduceMul, Nat.reduceLT, Nat.reduceLeDiff, Nat.reducePow, Int.reduceToNat, Int.reduceLT, Int.reduceLE, Int.reduceEq, Int.reduceNe, Int.reduceAdd, Int.reduceSub, Int.reduceMul, Int.reduceNeg, q0, q4, q5, q7, q8, q9, q10, q11, q12, q13, el, f8]
        exact finK_drop ⟨by simp [D.er, D.er1], rfl, rfl⟩
end Go.Proofs.YtgkfcgfobckaaaaS
