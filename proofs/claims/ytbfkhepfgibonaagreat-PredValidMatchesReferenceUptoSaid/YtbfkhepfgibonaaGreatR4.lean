/-
  Predicates: sets that fenlandref08.clean makes.
-/
import Derived.Test.YtbfkhepfgibonaaGreatR3
set_option linter.unusedVariables false
set_option linter.unusedSimpArgs false
namespace Go.Proofs.YtbfkhepfgibonaaGreatS
open Go Go.Proofs.YtbfkhepfgibonaaGreatV

variable {G : Heap}
attribute [local irreducible] VN VC VX VQ VY VW VTA VT0

theorem srcBc {β : Heap} {b n k : Nat} {f : List Vl} (hb : β b = some (vflat f)) (hk : k ≤ n) (hn : n ≤ f.length) : srcOf P β 3 22 (.so b (if f.length = k then 0 else 0 + k * 3) (n - k) (f.length - k)) = (((f.drop k).take (n - k)).map Vl.d, True) := srcB hb hk hn
set_option maxRecDepth 100000 in
set_option maxHeartbeats 8000000 in
theorem clean_ok (l : List Vl) (t : Int) (ht : isTy t = true) (hi : ∀ v ∈ l, I64' v.n) : VX P G 121 [.sl .none (l.map Vl.d), .int .i64 t] (isSet t) := by
  unfold VX
  refine VC.small2 fun hsm => ?_
  have zl := hsm (.sl .none (l.map Vl.d)) (List.mem_cons_self ..) (.sl .none (l.map Vl.d)) (by simp [D.cells])
  simp only [Small, mostLen, List.length_map] at zl
  clear hsm
  refine VC.turn (Φ1 := fun o β ω => ∃ d xs, o = .ret d ∧ xs.length ≤ 16 ∧ SetOk t xs ∧ OutC β d xs) ?_ ?_ ?_
  · refine VC.ofs (fun | 8 => [(0, []), (1, []), (2, []), (3, []), (4, []), (5, []), (6, []), (7, []), (8, []), (9, []), (10, []), (11, []), (12, [])] | 10 => [(0, []), (1, []), (2, []), (3, []), (4, []), (5, []), (6, []), (7, []), (8, []), (9, []), (10, []), (11, [])] | 12 => [(0, []), (1, []), (2, []), (3, []), (4, []), (5, [777777]), (6, [])] | 99999999 => [(0, [0, 1, 4, 5, 6, 7, 8, 9, 19, 29, 42, 56])] | _ => []) [4] mixed Tryz.func121 rfl rfl rfl rfl (by decide +kernel) (by simp) ?_
    simp only [go_sem, reduceIte, Nat.reduceEqDiff, Nat.reduceAdd, Nat.reduceSub, Nat.reduceMul, Nat.reduceLT, Nat.reduceLeDiff, Nat.reducePow, Int.reduceToNat, Int.reduceLT, Int.reduceLE, Int.reduceEq, Int.reduceNe, Int.reduceAdd, Int.reduceSub, Int.reduceMul, Int.reduceNeg]
    refine vwq_loop (fun v => ∃ (j : Nat) (xs : List Vl), j ≤ l.length ∧ xs.length ≤ 16 ∧ SetOk t xs ∧ v.σ 0 = .sl .none (l.map Vl.d) ∧ v.σ 1 = .int .i64 t ∧ v.σ 6 = .int .i64 j ∧ OutC v.β (v.σ 5) xs) (fun v => l.length - (ival (v.σ 6)).toNat) ⟨0, [], by omega, by simp, .nil, rfl, rfl, rfl, .inl ⟨rfl, rfl⟩⟩ ?_
    rintro σ β ω ⟨j, xs, j1, n1, hset, q0, q1, q6, ho⟩
    dsimp only at q0 q1 q6 ho
    rcases ho with ⟨q5, rfl⟩ | ⟨b, f, q5, hb, hf, hft⟩
    · try simp only [go_sem, reduceIte, Nat.reduceEqDiff, Nat.reduceAdd, Nat.reduceSub, Nat.reduceMul, Nat.reduceLT, Nat.reduceLeDiff, Nat.reducePow, Int.reduceToNat, Int.reduceLT, Int.reduceLE, Int.reduceEq, Int.reduceNe, Int.reduceAdd, Int.reduceSub, Int.reduceMul, Int.reduceNeg, q0, q1, q5, q6]
      refine cd_dec (fun g => ?_) (fun g => ?_)
      · obtain ⟨x, hx, ex⟩ := Vl_at (l := l) (j := j) (by omega)
        have g1 := eq_true g
        rw [List.length_map] at g
        have wj := wrap_i64 (x := (j : Int) + 1) (by omega) (by omega)
        have c1 : ((0 : Int) ≤ j) = True := eq_true (by omega)
        have hm := Made5_ok (G := G) x t ht (hi x (List.mem_of_getElem? hx))
        simp only [Vl.cells] at hm
        try simp only [go_sem, reduceIte, Nat.reduceEqDiff, Nat.reduceAdd, Nat.reduceSub, Nat.reduceMul, Nat.reduceLT, Nat.reduceLeDiff, Nat.reducePow, Int.reduceToNat, Int.reduceLT, Int.reduceLE, Int.reduceEq, Int.reduceNe, Int.reduceAdd, Int.reduceSub, Int.reduceMul, Int.reduceNeg, q0, q1, q5, q6, ex, g1, c1]
        refine cK_vx hm ?_
        rintro _ ⟨w, rfl, hw⟩
        obtain ⟨wn, wi, ws⟩ := w
        try simp only [go_sem, reduceIte, Nat.reduceEqDiff, Nat.reduceAdd, Nat.reduceSub, Nat.reduceMul, Nat.reduceLT, Nat.reduceLeDiff, Nat.reducePow, Int.reduceToNat, Int.reduceLT, Int.reduceLE, Int.reduceEq, Int.reduceNe, Int.reduceAdd, Int.reduceSub, Int.reduceMul, Int.reduceNeg, q0, q1, q5, q6, Vl.cells]
        refine new_any fun b1 hb1 => ?_
        cases wn
        · try simp only [go_sem, reduceIte, Nat.reduceEqDiff, Nat.reduceAdd, Nat.reduceSub, Nat.reduceMul, Nat.reduceLT, Nat.reduceLeDiff, Nat.reducePow, Int.reduceToNat, Int.reduceLT, Int.reduceLE, Int.reduceEq, Int.reduceNe, Int.reduceAdd, Int.reduceSub, Int.reduceMul, Int.reduceNeg, q0, q1, q5, q6]
          generalize hβ : Heap.set _ b1 _ = β1
          have e1 : β1 b1 = some [.bool false, .int .i64 wi, .str ws] := by rw [← hβ]; simp [Heap.set]
          clear hβ hb1
          refine vwq_loop (fun v => v.σ 0 = .sl .none (l.map Vl.d) ∧ v.σ 1 = .int .i64 t ∧ v.σ 5 = .sl .full [] ∧ v.σ 6 = .int .i64 j ∧ v.σ 7 = .pb b1 0 ∧ v.σ 8 = .int .i64 0 ∧ v.β b1 = some [.bool false, .int .i64 wi, .str ws]) (fun _ => 0) ⟨rfl, rfl, rfl, rfl, rfl, rfl, e1⟩ ?_
          clear e1 β1 q0 q1 q5 q6 σ β ω
          rintro σ β ω ⟨q0, q1, q5, q6, q7, q8, e1⟩
          dsimp only at q0 q1 q5 q6 q7 q8 e1
          try simp only [go_sem, reduceIte, Nat.reduceEqDiff, Nat.reduceAdd, Nat.reduceSub, Nat.reduceMul, Nat.reduceLT, Nat.reduceLeDiff, Nat.reducePow, Int.reduceToNat, Int.reduceLT, Int.reduceLE, Int.reduceEq, Int.reduceNe, Int.reduceAdd, Int.reduceSub, Int.reduceMul, Int.reduceNeg, q0, q1, q5, q6, q7, q8, e1]
          refine fun t' _ => bapVc (xs := []) (R := [⟨false, wi, ws⟩]) eltV zelV (by omega) (by omega) trivial (.inl ⟨rfl, rfl, rfl, by simp⟩) (srcV .full [⟨false, wi, ws⟩]) (by simp) fun d β' hd => ?_
          obtain ⟨b, f, rfl, hb, hf, hft⟩ := hd
          try simp only [go_sem, reduceIte, Nat.reduceEqDiff, Nat.reduceAdd, Nat.reduceSub, Nat.reduceMul, Nat.reduceLT, Nat.reduceLeDiff, Nat.reducePow, Int.reduceToNat, Int.reduceLT, Int.reduceLE, Int.reduceEq, Int.reduceNe, Int.reduceAdd, Int.reduceSub, Int.reduceMul, Int.reduceNeg, wj]
          refine bapVc (xs := [⟨false, wi, ws⟩]) (R := []) eltV zelV (by omega) (by omega) trivial (.inr ⟨b, f, 0, _, rfl, rfl, rfl, hb, hf, hft⟩) (srcV (.live t' 3) []) (by simp) fun d β' hd => ?_
          have hput := SetOk.put (l := []) (k := 0) (v := ⟨false, wi, ws⟩) hset (by simp) ⟨hw.ok, rfl, hw.n⟩ (fun a h _ => absurd h (by omega)) (fun b h => by simp at h)
          exact ⟨⟨j + 1, [Vl.mk false wi ws], by omega, by simp, hput, rfl, .inr hd⟩, by omega⟩
        · try simp only [go_sem, reduceIte, Nat.reduceEqDiff, Nat.reduceAdd, Nat.reduceSub, Nat.reduceMul, Nat.reduceLT, Nat.reduceLeDiff, Nat.reducePow, Int.reduceToNat, Int.reduceLT, Int.reduceLE, Int.reduceEq, Int.reduceNe, Int.reduceAdd, Int.reduceSub, Int.reduceMul, Int.reduceNeg, q0, q1, q5, q6, wj]
          exact ⟨⟨j + 1, [], by omega, by simp, .nil, rfl, .inl ⟨rfl, rfl⟩⟩, by omega⟩
      · try simp only [go_sem, reduceIte, Nat.reduceEqDiff, Nat.reduceAdd, Nat.reduceSub, Nat.reduceMul, Nat.reduceLT, Nat.reduceLeDiff, Nat.reducePow, Int.reduceToNat, Int.reduceLT, Int.reduceLE, Int.reduceEq, Int.reduceNe, Int.reduceAdd, Int.reduceSub, Int.reduceMul, Int.reduceNeg, q0, q1, q5, q6]
        exact finK_exact ⟨_, [], rfl, by simp, .nil, .inl ⟨rfl, rfl⟩⟩
    · obtain ⟨n, hnx⟩ : ∃ n, xs.length = n := ⟨_, rfl⟩
      rw [hnx] at n1 hf hft q5
      try simp only [go_sem, reduceIte, Nat.reduceEqDiff, Nat.reduceAdd, Nat.reduceSub, Nat.reduceMul, Nat.reduceLT, Nat.reduceLeDiff, Nat.reducePow, Int.reduceToNat, Int.reduceLT, Int.reduceLE, Int.reduceEq, Int.reduceNe, Int.reduceAdd, Int.reduceSub, Int.reduceMul, Int.reduceNeg, q0, q1, q5, q6]
      refine cd_dec (fun g => ?_) (fun g => ?_)
      · obtain ⟨g, g2⟩ := g
        obtain ⟨x, hx, ex⟩ := Vl_at (l := l) (j := j) (by omega)
        have g1 := eq_true g
        rw [List.length_map] at g
        have wj := wrap_i64 (x := (j : Int) + 1) (by omega) (by omega)
        have c1 : ((0 : Int) ≤ j) = True := eq_true (by omega)
        have hm := Made5_ok (G := G) x t ht (hi x (List.mem_of_getElem? hx))
        simp only [Vl.cells] at hm
        try simp only [go_sem, reduceIte, Nat.reduceEqDiff, Nat.reduceAdd, Nat.reduceSub, Nat.reduceMul, Nat.reduceLT, Nat.reduceLeDiff, Nat.reducePow, Int.reduceToNat, Int.reduceLT, Int.reduceLE, Int.reduceEq, Int.reduceNe, Int.reduceAdd, Int.reduceSub, Int.reduceMul, Int.reduceNeg, q0, q1, q5, q6, ex, g1, c1]
        refine cK_vx hm ?_
        rintro _ ⟨w, rfl, hw⟩
        obtain ⟨wn, wi, ws⟩ := w
        try simp only [go_sem, reduceIte, Nat.reduceEqDiff, Nat.reduceAdd, Nat.reduceSub, Nat.reduceMul, Nat.reduceLT, Nat.reduceLeDiff, Nat.reducePow, Int.reduceToNat, Int.reduceLT, Int.reduceLE, Int.reduceEq, Int.reduceNe, Int.reduceAdd, Int.reduceSub, Int.reduceMul, Int.reduceNeg, q0, q1, q5, q6, Vl.cells]
        refine new_any fun b1 hb1 => ?_
        have m1 := box_ne hb1 hb
        cases wn
        · try simp only [go_sem, reduceIte, Nat.reduceEqDiff, Nat.reduceAdd, Nat.reduceSub, Nat.reduceMul, Nat.reduceLT, Nat.reduceLeDiff, Nat.reducePow, Int.reduceToNat, Int.reduceLT, Int.reduceLE, Int.reduceEq, Int.reduceNe, Int.reduceAdd, Int.reduceSub, Int.reduceMul, Int.reduceNeg, q0, q1, q5, q6]
          generalize hβ : Heap.set _ b1 _ = β1
          have e1 : β1 b1 = some [.bool false, .int .i64 wi, .str ws] := by rw [← hβ]; simp [Heap.set]
          have e2 : β1 b = some (vflat f) := by rw [← hβ]; simp [Heap.set, m1, hb]
          clear hβ hb1 hb
          have happ : ∀ (k : Nat), k ≤ n → (∀ a, 0 < k → xs[k - 1]? = some a → cmpV a ⟨false, wi, ws⟩ < 0) → (∀ y, xs[k]? = some y → ¬ cmpV y ⟨false, wi, ws⟩ < 0 ∧ y ≠ ⟨false, wi, ws⟩) → SetOk t (xs.take k ++ [Vl.mk false wi ws] ++ (f.drop k).take (n - k)) ∧ (xs.take k ++ [Vl.mk false wi ws] ++ (f.drop k).take (n - k)).length = n + 1 ∧ f.take (xs.take k).length = xs.take k ∧ (xs.take k).length = k := fun k hk h1 h2 => by
            have hp := hset.put (by omega : k ≤ xs.length) ⟨hw.ok, rfl, hw.n⟩ h1 h2
            have hdr : (f.drop k).take (n - k) = xs.drop k := by rw [← hft, List.drop_take]
            have hlk : (xs.take k).length = k := by rw [List.length_take]; omega
            refine ⟨by rw [hdr]; simpa using hp, by rw [hdr]; simp; omega, ?_, hlk⟩
            rw [hlk, ← hft, List.take_take, Nat.min_eq_left hk]
          refine vwq_loop (fun v => ∃ k : Nat, k ≤ n ∧ (∀ a, 0 < k → xs[k - 1]? = some a → cmpV a (Vl.mk false wi ws) < 0) ∧ v.σ 0 = .sl .none (l.map Vl.d) ∧ v.σ 1 = .int .i64 t ∧ v.σ 5 = .so b 0 n f.length ∧ v.σ 6 = .int .i64 j ∧ v.σ 7 = .pb b1 0 ∧ v.σ 8 = .int .i64 k ∧ v.β b1 = some [.bool false, .int .i64 wi, .str ws] ∧ v.β b = some (vflat f)) (fun v => n - (ival (v.σ 8)).toNat) ⟨0, by omega, fun a h _ => absurd h (by omega), rfl, rfl, rfl, rfl, rfl, rfl, e1, e2⟩ ?_
          clear e1 e2 β1 q0 q1 q5 q6 σ β ω
          rintro σ β ω ⟨k, kn, hlow, q0, q1, q5, q6, q7, q8, e1, e2⟩
          dsimp only at q0 q1 q5 q6 q7 q8 e1 e2
          have wk := wrap_i64 (x := (k : Int) + 1) (by omega) (by omega)
          have c2 : ((0 : Int) ≤ k) = True := eq_true (by omega)
          have ho := vflat_obj f
          by_cases gk : (k : Int) < n
          · obtain ⟨y, hy⟩ : ∃ y, f[k]? = some y := ⟨f[k]'(by omega), by simp⟩
            have hyx : xs[k]? = some y := by rw [← hft, List.getElem?_take, if_pos (by omega)]; exact hy
            have hv : List.take 3 (List.drop (0 + k * 3) (vflat f)) = [.bool y.null, .int .i64 y.n, .str y.s] := by rw [Nat.zero_add]; exact vflat_at hy
            have hl3 : (0 + k * 3 + 3 ≤ (vflat f).length) = True := eq_true (by rw [vflat_length]; omega)
            have hc := refCompare_ok (G := G) y ⟨false, wi, ws⟩
            simp only [Vl.d, Vl.cells] at hc
            have gk' := eq_true gk
            try simp only [go_sem, reduceIte, Nat.reduceEqDiff, Nat.reduceAdd, Nat.reduceSub, Nat.reduceMul, Nat.reduceLT, Nat.reduceLeDiff, Nat.reducePow, Int.reduceToNat, Int.reduceLT, Int.reduceLE, Int.reduceEq, Int.reduceNe, Int.reduceAdd, Int.reduceSub, Int.reduceMul, Int.reduceNeg, q0, q1, q5, q6, q7, q8, e1, e2, c2, ho, hv, hl3, gk']
            refine cE_vn hc ?_
            try simp only [go_sem, reduceIte, Nat.reduceEqDiff, Nat.reduceAdd, Nat.reduceSub, Nat.reduceMul, Nat.reduceLT, Nat.reduceLeDiff, Nat.reducePow, Int.reduceToNat, Int.reduceLT, Int.reduceLE, Int.reduceEq, Int.reduceNe, Int.reduceAdd, Int.reduceSub, Int.reduceMul, Int.reduceNeg, q0, q1, q5, q6, q7, q8, e1, e2, c2, ho, hv, hl3, gk']
            refine cd_dec (fun g3 => ?_) (fun g3 => ?_)
            · try simp only [go_sem, reduceIte, Nat.reduceEqDiff, Nat.reduceAdd, Nat.reduceSub, Nat.reduceMul, Nat.reduceLT, Nat.reduceLeDiff, Nat.reducePow, Int.reduceToNat, Int.reduceLT, Int.reduceLE, Int.reduceEq, Int.reduceNe, Int.reduceAdd, Int.reduceSub, Int.reduceMul, Int.reduceNeg, q0, q1, q5, q6, q7, q8, e1, e2, c2, ho, hv, hl3, gk', wk]
              refine ⟨⟨k + 1, by omega, fun a _ ha => ?_, rfl⟩, by omega⟩
              obtain rfl := Option.some.inj (hyx.symm.trans (by simpa using ha))
              exact g3
            · try simp only [go_sem, reduceIte, Nat.reduceEqDiff, Nat.reduceAdd, Nat.reduceSub, Nat.reduceMul, Nat.reduceLT, Nat.reduceLeDiff, Nat.reducePow, Int.reduceToNat, Int.reduceLT, Int.reduceLE, Int.reduceEq, Int.reduceNe, Int.reduceAdd, Int.reduceSub, Int.reduceMul, Int.reduceNeg, q0, q1, q5, q6, q7, q8, e1, e2, c2, ho, hv, hl3, gk', wk]
              refine cd_dec (fun g4 => ?_) (fun g4 => ?_)
              · try simp only [go_sem, reduceIte, Nat.reduceEqDiff, Nat.reduceAdd, Nat.reduceSub, Nat.reduceMul, Nat.reduceLT, Nat.reduceLeDiff, Nat.reducePow, Int.reduceToNat, Int.reduceLT, Int.reduceLE, Int.reduceEq, Int.reduceNe, Int.reduceAdd, Int.reduceSub, Int.reduceMul, Int.reduceNeg, q0, q1, q5, q6, q7, q8, e1, e2, wj]
                exact ⟨⟨j + 1, xs, by omega, by omega, hset, rfl, .inr ⟨b, f, by rw [hnx], e2, by omega, by rw [hnx]; exact hft⟩⟩, by omega⟩
              · try simp only [go_sem, reduceIte, Nat.reduceEqDiff, Nat.reduceAdd, Nat.reduceSub, Nat.reduceMul, Nat.reduceLT, Nat.reduceLeDiff, Nat.reducePow, Int.reduceToNat, Int.reduceLT, Int.reduceLE, Int.reduceEq, Int.reduceNe, Int.reduceAdd, Int.reduceSub, Int.reduceMul, Int.reduceNeg, q0, q1, q5, q6, q7, q8, e1, e2, c2, ho, hv, hl3, gk', wk]
                obtain ⟨p1, p2, p3, p4⟩ := happ k kn hlow (fun z hz => by
                  obtain rfl := Option.some.inj (hyx.symm.trans hz)
                  refine ⟨g3, fun e => g4 ?_⟩
                  subst e
                  exact ⟨rfl, rfl, rfl⟩)
                rw [srcB e2 kn hf]
                refine ⟨⟨by omega, by omega⟩, trivial, by simp; omega, fun t' _ => ⟨by omega, ?_⟩⟩
                refine bapVc (xs := xs.take k) (R := [⟨false, wi, ws⟩]) eltV zelV (by omega) (by omega) trivial (.inr ⟨b, f, _, _, rfl, by split <;> rfl, by rw [p4], e2, by omega, p3⟩) (srcV .full [⟨false, wi, ws⟩]) (by simp; omega) fun d β' hd => ?_
                obtain ⟨b', f', rfl, hb', hf', hft'⟩ := hd
                try simp only [go_sem, reduceIte, Nat.reduceEqDiff, Nat.reduceAdd, Nat.reduceSub, Nat.reduceMul, Nat.reduceLT, Nat.reduceLeDiff, Nat.reducePow, Int.reduceToNat, Int.reduceLT, Int.reduceLE, Int.reduceEq, Int.reduceNe, Int.reduceAdd, Int.reduceSub, Int.reduceMul, Int.reduceNeg, wj]
                refine bapVc (xs := xs.take k ++ [⟨false, wi, ws⟩]) (R := (f.drop k).take (n - k)) eltV zelV (by omega) (by omega) trivial (.inr ⟨b', f', 0, _, rfl, rfl, rfl, hb', hf', hft'⟩) (srcV (.live t' 3) _) (by simp; omega) fun d β' hd => ?_
                exact ⟨⟨j + 1, _, by omega, by rw [p2]; omega, p1, rfl, .inr hd⟩, by omega⟩
          · have gk' := eq_false gk
            try simp only [go_sem, reduceIte, Nat.reduceEqDiff, Nat.reduceAdd, Nat.reduceSub, Nat.reduceMul, Nat.reduceLT, Nat.reduceLeDiff, Nat.reducePow, Int.reduceToNat, Int.reduceLT, Int.reduceLE, Int.reduceEq, Int.reduceNe, Int.reduceAdd, Int.reduceSub, Int.reduceMul, Int.reduceNeg, q0, q1, q5, q6, q7, q8, e1, e2, c2, ho, gk']
            obtain ⟨p1, p2, p3, p4⟩ := happ k kn hlow (fun z hz => by
              have := (List.getElem?_eq_some_iff.1 hz).1; omega)
            rw [srcB e2 kn hf]
            refine ⟨⟨by omega, by omega⟩, trivial, by simp; omega, fun t' _ => ⟨by omega, ?_⟩⟩
            refine bapVc (xs := xs.take k) (R := [⟨false, wi, ws⟩]) eltV zelV (by omega) (by omega) trivial (.inr ⟨b, f, _, _, rfl, by split <;> rfl, by rw [p4], e2, by omega, p3⟩) (srcV .full [⟨false, wi, ws⟩]) (by simp; omega) fun d β' hd => ?_
            obtain ⟨b', f', rfl, hb', hf', hft'⟩ := hd
            try simp only [go_sem, reduceIte, Nat.reduceEqDiff, Nat.reduceAdd, Nat.reduceSub, Nat.reduceMul, Nat.reduceLT, Nat.reduceLeDiff, Nat.reducePow, Int.reduceToNat, Int.reduceLT, Int.reduceLE, Int.reduceEq, Int.reduceNe, Int.reduceAdd, Int.reduceSub, Int.reduceMul, Int.reduceNeg, wj]
            refine bapVc (xs := xs.take k ++ [⟨false, wi, ws⟩]) (R := (f.drop k).take (n - k)) eltV zelV (by omega) (by omega) trivial (.inr ⟨b', f', 0, _, rfl, rfl, rfl, hb', hf', hft'⟩) (srcV (.live t' 3) _) (by simp; omega) fun d β' hd => ?_
            exact ⟨⟨j + 1, _, by omega, by rw [p2]; omega, p1, rfl, .inr hd⟩, by omega⟩
        · try simp only [go_sem, reduceIte, Nat.reduceEqDiff, Nat.reduceAdd, Nat.reduceSub, Nat.reduceMul, Nat.reduceLT, Nat.reduceLeDiff, Nat.reducePow, Int.reduceToNat, Int.reduceLT, Int.reduceLE, Int.reduceEq, Int.reduceNe, Int.reduceAdd, Int.reduceSub, Int.reduceMul, Int.reduceNeg, q0, q1, q5, q6, wj]
          refine ⟨⟨j + 1, xs, by omega, by omega, hset, rfl, .inr ⟨b, f, by rw [hnx], ?_, by omega, by rw [hnx]; exact hft⟩⟩, by omega⟩
          simp [Heap.set, m1, hb]
      · try simp only [go_sem, reduceIte, Nat.reduceEqDiff, Nat.reduceAdd, Nat.reduceSub, Nat.reduceMul, Nat.reduceLT, Nat.reduceLeDiff, Nat.reducePow, Int.reduceToNat, Int.reduceLT, Int.reduceLE, Int.reduceEq, Int.reduceNe, Int.reduceAdd, Int.reduceSub, Int.reduceMul, Int.reduceNeg, q0, q1, q5, q6]
        exact finK_exact ⟨_, xs, rfl, by omega, hset, .inr ⟨b, f, by rw [hnx], hb, by omega, by rw [hnx]; exact hft⟩⟩
  · rintro d β' ω' ⟨d', xs, h1, hn, hset, h⟩
    cases h1
    rcases h with ⟨rfl, rfl⟩ | ⟨b, f, rfl, hb, hf, hft⟩
    · exact Turn.weak (finK_drop ⟨_, ⟨[], rfl, by simp, .nil⟩, rfl, rfl, rfl⟩)
    · refine Turn.bind (Turn.freeze (m := 3) (xs := xs.map Vl.d) hb (vflat_obj f) hf (by rw [vflat_length]; omega) ?_ (fun x hx => (vl_cells _ x hx).1) (by simp) (by simp [mostLen]; omega)) ?_
      · rw [vflat_take f _ hf, hft]; rfl
      · rintro d β ω ⟨t, ht, rfl, rfl, rfl⟩
        exact Turn.weak (finK_drop ⟨_, ⟨xs, rfl, hn, hset⟩, rfl, rfl, rfl⟩)
  · rintro d β' ω' ⟨d', xs, h1, _⟩
    cases h1
end Go.Proofs.YtbfkhepfgibonaaGreatS
