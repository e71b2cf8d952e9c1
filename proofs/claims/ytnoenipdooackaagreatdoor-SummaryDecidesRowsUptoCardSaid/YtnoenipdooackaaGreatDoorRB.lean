import Derived.Test.YtnoenipdooackaaGreatDoorRA
set_option linter.unusedVariables false
set_option linter.unusedSimpArgs false
namespace Go.Proofs.YtnoenipdooackaaGreatDoorS
open Go Go.Proofs.YtnoenipdooackaaGreatDoorV

variable {G : Heap}
attribute [local irreducible] VN VC VX VQ VT0

def isVs (n : Nat) (d : D) : Prop := ∃ m : List Vl, d = .sl .none (m.map Vl.d) ∧ m.length ≤ n
theorem elt26 : elt P 26 = some (3, 32) := by kernel_rfl
theorem zel26 : zel P 26 = some ([.bool false, .int .i64 0, .str ByteArray.empty], 32) := by kernel_rfl
theorem cut26 : cutk P 26 = some (1, 3, 0) := by kernel_rfl
theorem srcV {β : Heap} (tk : Tk) (R : List Vl) : srcOf P β 3 26 (.sl tk (R.map Vl.d)) = (R.map Vl.d, True) := by
  rw [srcOf_sl]
  simp only [vsrc, cut26, vl_er]
  rw [show (∀ d ∈ R.map Vl.d, d.cells.length = 3 ∧ d.solid = true) = True from eq_true (vl_cells R)]
theorem srcB {β : Heap} {b n k : Nat} {f : List Vl} (hb : β b = some (vflat f)) (hk : k ≤ n) (hn : n ≤ f.length) : srcOf P β 3 26 (.so b (if f.length = k then 0 else 0 + k * 3) (n - k) (f.length - k)) = (((f.drop k).take (n - k)).map Vl.d, True) := by
  rw [srcOf_so cut26 hb]
  refine Prod.ext ?_ ?_
  · dsimp only
    by_cases g : f.length = k
    · rw [if_pos g, show n - k = 0 by omega]; rfl
    · rw [if_neg g, Nat.zero_add, vflat_drop f k (by omega), els_vflat _ _ (by simp; omega)]
  · refine eq_true ⟨vflat_obj f, ?_, vflat_one⟩
    rw [vflat_length]
    by_cases g : f.length = k
    · rw [if_pos g]; omega
    · rw [if_neg g]; omega
set_option maxRecDepth 100000 in
set_option maxHeartbeats 8000000 in
theorem clean_ok (l : List Vl) (t : Int) (hi : ∀ v ∈ l, I64 v.n) : VX P G 77 [.sl .none (l.map Vl.d), .int .i64 t] (isVs 16) := by
  unfold VX
  refine VC.small2 fun hsm => ?_
  have zl := hsm (.sl .none (l.map Vl.d)) (List.mem_cons_self ..) (.sl .none (l.map Vl.d)) (by simp [D.cells])
  simp only [Small, mostLen, List.length_map] at zl
  clear hsm
  refine VC.turn (Φ1 := fun o β ω => ∃ d n, o = .ret d ∧ n ≤ 16 ∧ OutV β d n) ?_ ?_ ?_
  · refine VC.ofs (fun | 8 => [(0, []), (1, []), (2, []), (3, []), (4, []), (5, []), (6, []), (7, []), (8, []), (9, []), (10, []), (11, []), (12, [])] | 10 => [(0, []), (1, []), (2, []), (3, []), (4, []), (5, []), (6, []), (7, []), (8, []), (9, []), (10, []), (11, [])] | 12 => [(0, []), (1, []), (2, []), (3, []), (4, []), (5, [777777]), (6, [])] | 99999999 => [(0, [0, 1, 4, 5, 6, 7, 8, 9, 19, 29, 42, 56])] | _ => []) [4] mixed Tryz.func77 rfl rfl rfl rfl (by decide +kernel) (by simp) ?_
    simp only [go_sem, reduceIte, Nat.reduceEqDiff, Nat.reduceAdd, Nat.reduceSub, Nat.reduceMul, Nat.reduceLT, Nat.reduceLeDiff, Nat.reducePow, Int.reduceToNat, Int.reduceLT, Int.reduceLE, Int.reduceEq, Int.reduceNe, Int.reduceAdd, Int.reduceSub, Int.reduceMul, Int.reduceNeg]
    refine vwq_loop (fun v => ∃ (j n : Nat), j ≤ l.length ∧ n ≤ 16 ∧ v.σ 0 = .sl .none (l.map Vl.d) ∧ v.σ 1 = .int .i64 t ∧ v.σ 6 = .int .i64 j ∧ OutV v.β (v.σ 5) n) (fun v => l.length - (ival (v.σ 6)).toNat) ⟨0, 0, by omega, by omega, rfl, rfl, rfl, .inl ⟨rfl, rfl⟩⟩ ?_
    rintro σ β ω ⟨j, n, j1, n1, q0, q1, q6, ho⟩
    dsimp only at q0 q1 q6 ho
    rcases ho with ⟨q5, rfl⟩ | ⟨b, f, q5, hb, hf⟩
    · try simp only [go_sem, reduceIte, Nat.reduceEqDiff, Nat.reduceAdd, Nat.reduceSub, Nat.reduceMul, Nat.reduceLT, Nat.reduceLeDiff, Nat.reducePow, Int.reduceToNat, Int.reduceLT, Int.reduceLE, Int.reduceEq, Int.reduceNe, Int.reduceAdd, Int.reduceSub, Int.reduceMul, Int.reduceNeg, q0, q1, q5, q6]
      refine cd_dec (fun g => ?_) (fun g => ?_)
      · obtain ⟨x, hx, ex⟩ := Vl_at (l := l) (j := j) (by omega)
        have g1 := eq_true g
        rw [List.length_map] at g
        have wj := wrap_i64 (x := (j : Int) + 1) (by omega) (by omega)
        have c1 : ((0 : Int) ≤ j) = True := eq_true (by omega)
        have hm := Made05_ok (G := G) x t (hi x (List.mem_of_getElem? hx))
        simp only [Vl.cells] at hm
        try simp only [go_sem, reduceIte, Nat.reduceEqDiff, Nat.reduceAdd, Nat.reduceSub, Nat.reduceMul, Nat.reduceLT, Nat.reduceLeDiff, Nat.reducePow, Int.reduceToNat, Int.reduceLT, Int.reduceLE, Int.reduceEq, Int.reduceNe, Int.reduceAdd, Int.reduceSub, Int.reduceMul, Int.reduceNeg, q0, q1, q5, q6, ex, g1, c1]
        refine cK_vx hm ?_
        rintro _ ⟨w, rfl, hw⟩
        obtain ⟨wn, wi, ws⟩ := w
        try simp only [go_sem, reduceIte, Nat.reduceEqDiff, Nat.reduceAdd, Nat.reduceSub, Nat.reduceMul, Nat.reduceLT, Nat.reduceLeDiff, Nat.reducePow, Int.reduceToNat, Int.reduceLT, Int.reduceLE, Int.reduceEq, Int.reduceNe, Int.reduceAdd, Int.reduceSub, Int.reduceMul, Int.reduceNeg, q0, q1, q5, q6, Vl.cells]
        refine new_any fun b1 hb1 => ?_
        cases wn
        · try simp only [go_sem, reduceIte, Nat.reduceEqDiff, Nat.reduceAdd, Nat.reduceSub, Nat.reduceMul, Nat.reduceLT, Nat.reduceLeDiff, Nat.reducePow, Int.reduceToNat, Int.reduceLT, Int.reduceLE, Int.reduceEq, Int.reduceNe, Int.reduceAdd, Int.reduceSub, Int.reduceMul, Int.reduceNeg, q0, q1, q5, q6]
          generalize hβ : Heap.set _ b1 _ = β1
          have e1 : β1 b1 = some [.bool false, .int .i64 wi, .str ws] := by rw [← hβ]; simp [Heap.set]
          clear hβ hb1
          refine vwq_loop (fun v => v.σ 0 = .sl .none (l.map Vl.d) ∧ v.σ 1 = .int .i64 t ∧ v.σ 5 = .sl .full [] ∧ v.σ 6 = .int .i64 j ∧ v.σ 7 = .pb b1 0 ∧ v.σ 8 = .int .i64 0 ∧ v.β b1 = some [.bool false, .int .i64 wi, .str ws]) (fun _ => 0) ⟨rfl, rfl, rfl, rfl, rfl, rfl, e1⟩ ?_
          clear e1 β1 q0 q1 q5 q6 σ β ω
          rintro σ β ω ⟨q0, q1, q5, q6, q7, q8, e1⟩
          dsimp only at q0 q1 q5 q6 q7 q8 e1
          try simp only [go_sem, reduceIte, Nat.reduceEqDiff, Nat.reduceAdd, Nat.reduceSub, Nat.reduceMul, Nat.reduceLT, Nat.reduceLeDiff, Nat.reducePow, Int.reduceToNat, Int.reduceLT, Int.reduceLE, Int.reduceEq, Int.reduceNe, Int.reduceAdd, Int.reduceSub, Int.reduceMul, Int.reduceNeg, q0, q1, q5, q6, q7, q8, e1]
          refine fun t' _ => bapV (R := [⟨false, wi, ws⟩]) elt26 zel26 (by omega) (by omega) trivial (.inl ⟨rfl, rfl, rfl, by simp⟩) (srcV .full [⟨false, wi, ws⟩]) (by simp) fun d β' hd => ?_
          obtain ⟨b, f, rfl, hb, hf⟩ := hd
          try simp only [go_sem, reduceIte, Nat.reduceEqDiff, Nat.reduceAdd, Nat.reduceSub, Nat.reduceMul, Nat.reduceLT, Nat.reduceLeDiff, Nat.reducePow, Int.reduceToNat, Int.reduceLT, Int.reduceLE, Int.reduceEq, Int.reduceNe, Int.reduceAdd, Int.reduceSub, Int.reduceMul, Int.reduceNeg, wj]
          refine bapV (R := []) elt26 zel26 (by omega) (by omega) trivial (.inr ⟨b, f, 0, rfl, rfl, hb, hf⟩) (srcV (.live t' 3) []) (by simp) fun d β' hd => ?_
          exact ⟨⟨j + 1, 1, by omega, by omega, rfl, .inr hd⟩, by omega⟩
        · try simp only [go_sem, reduceIte, Nat.reduceEqDiff, Nat.reduceAdd, Nat.reduceSub, Nat.reduceMul, Nat.reduceLT, Nat.reduceLeDiff, Nat.reducePow, Int.reduceToNat, Int.reduceLT, Int.reduceLE, Int.reduceEq, Int.reduceNe, Int.reduceAdd, Int.reduceSub, Int.reduceMul, Int.reduceNeg, q0, q1, q5, q6, wj]
          exact ⟨⟨j + 1, 0, by omega, by omega, rfl, .inl ⟨rfl, rfl⟩⟩, by omega⟩
      · try simp only [go_sem, reduceIte, Nat.reduceEqDiff, Nat.reduceAdd, Nat.reduceSub, Nat.reduceMul, Nat.reduceLT, Nat.reduceLeDiff, Nat.reducePow, Int.reduceToNat, Int.reduceLT, Int.reduceLE, Int.reduceEq, Int.reduceNe, Int.reduceAdd, Int.reduceSub, Int.reduceMul, Int.reduceNeg, q0, q1, q5, q6]
        exact finK_exact ⟨_, 0, rfl, by omega, .inl ⟨rfl, rfl⟩⟩
    · try simp only [go_sem, reduceIte, Nat.reduceEqDiff, Nat.reduceAdd, Nat.reduceSub, Nat.reduceMul, Nat.reduceLT, Nat.reduceLeDiff, Nat.reducePow, Int.reduceToNat, Int.reduceLT, Int.reduceLE, Int.reduceEq, Int.reduceNe, Int.reduceAdd, Int.reduceSub, Int.reduceMul, Int.reduceNeg, q0, q1, q5, q6]
      refine cd_dec (fun g => ?_) (fun g => ?_)
      · obtain ⟨g, g2⟩ := g
        obtain ⟨x, hx, ex⟩ := Vl_at (l := l) (j := j) (by omega)
        have g1 := eq_true g
        rw [List.length_map] at g
        have wj := wrap_i64 (x := (j : Int) + 1) (by omega) (by omega)
        have c1 : ((0 : Int) ≤ j) = True := eq_true (by omega)
        have hm := Made05_ok (G := G) x t (hi x (List.mem_of_getElem? hx))
        simp only [Vl.cells] at hm
        try simp only [go_sem, reduceIte, Nat.reduceEqDiff, Nat.reduceAdd, Nat.reduceSub, Nat.reduceMul, Nat.reduceLT, Nat.reduceLeDiff, Nat.reducePow, Int.reduceToNat, Int.reduceLT, Int.reduceLE, Int.reduceEq, Int.reduceNe, Int.reduceAdd, Int.reduceSub, Int.reduceMul, Int.reduceNeg, q0, q1, q5, q6, ex, g1, c1]
        refine cK_vx hm ?_
        rintro _ ⟨w, rfl, hw⟩
        obtain ⟨wn, wi, ws⟩ := w
        try simp only [go_sem, reduceIte, Nat.reduceEqDiff, Nat.reduceAdd, Nat.reduceSub, Nat.reduceMul, Nat.reduceLT, Nat.reduceLeDiff, Nat.reducePow, Int.reduceToNat, Int.reduceLT, Int.reduceLE, Int.reduceEq, Int.reduceNe, Int.reduceAdd, Int.reduceSub, Int.reduceMul, Int.reduceNeg, q0, q1, q5, q6, Vl.cells]
        refine new_any fun b1 hb1 => ?_
        have m1 := box_ne hb1 hb
        cases wn
        · try simp only [go_sem, reduceIte, Nat.reduceEqDiff, Nat.reduceAdd, Nat.reduceSub, Nat.reduceMul, Nat.reduceLT, Nat.reduceLeDiff, Nat.reducePow, Int.reduceToNat, Int.reduceLT, Int.reduceLE, Int.reduceEq, Int.reduceNe, Int.reduceAdd, Int.reduceSub, Int.reduceMul, Int.reduceNeg, q0, q1, q5, q6]
          generalize hβ : Heap.set _ b1 _ = β1
          have e1 : β1 b1 = some [.bool false, .int .i64 wi, .str ws] := by rw [← hβ]; simp [Heap.set]
          have e2 : β1 b = some (vflat f) := by rw [← hβ]; simp [Heap.set, m1, hb]
          clear hβ hb1 hb
          refine vwq_loop (fun v => ∃ k : Nat, k ≤ n ∧ v.σ 0 = .sl .none (l.map Vl.d) ∧ v.σ 1 = .int .i64 t ∧ v.σ 5 = .so b 0 n f.length ∧ v.σ 6 = .int .i64 j ∧ v.σ 7 = .pb b1 0 ∧ v.σ 8 = .int .i64 k ∧ v.β b1 = some [.bool false, .int .i64 wi, .str ws] ∧ v.β b = some (vflat f)) (fun v => n - (ival (v.σ 8)).toNat) ⟨0, by omega, rfl, rfl, rfl, rfl, rfl, rfl, e1, e2⟩ ?_
          clear e1 e2 β1 q0 q1 q5 q6 σ β ω
          rintro σ β ω ⟨k, kn, q0, q1, q5, q6, q7, q8, e1, e2⟩
          dsimp only at q0 q1 q5 q6 q7 q8 e1 e2
          have wk := wrap_i64 (x := (k : Int) + 1) (by omega) (by omega)
          have c2 : ((0 : Int) ≤ k) = True := eq_true (by omega)
          have ho := vflat_obj f
          by_cases gk : (k : Int) < n
          · obtain ⟨y, hy⟩ : ∃ y, f[k]? = some y := ⟨f[k]'(by omega), by simp⟩
            have hv : List.take 3 (List.drop (0 + k * 3) (vflat f)) = [.bool y.null, .int .i64 y.n, .str y.s] := by rw [Nat.zero_add]; exact vflat_at hy
            have hl3 : (0 + k * 3 + 3 ≤ (vflat f).length) = True := eq_true (by rw [vflat_length]; omega)
            have hc := refCompare_ok (G := G) y ⟨false, wi, ws⟩
            simp only [Vl.d, Vl.cells] at hc
            have gk' := eq_true gk
            try simp only [go_sem, reduceIte, Nat.reduceEqDiff, Nat.reduceAdd, Nat.reduceSub, Nat.reduceMul, Nat.reduceLT, Nat.reduceLeDiff, Nat.reducePow, Int.reduceToNat, Int.reduceLT, Int.reduceLE, Int.reduceEq, Int.reduceNe, Int.reduceAdd, Int.reduceSub, Int.reduceMul, Int.reduceNeg, q0, q1, q5, q6, q7, q8, e1, e2, c2, ho, hv, hl3, gk']
            refine cE_vn hc ?_
            try simp only [go_sem, reduceIte, Nat.reduceEqDiff, Nat.reduceAdd, Nat.reduceSub, Nat.reduceMul, Nat.reduceLT, Nat.reduceLeDiff, Nat.reducePow, Int.reduceToNat, Int.reduceLT, Int.reduceLE, Int.reduceEq, Int.reduceNe, Int.reduceAdd, Int.reduceSub, Int.reduceMul, Int.reduceNeg, q0, q1, q5, q6, q7, q8, e1, e2, c2, ho, hv, hl3, gk']
            refine cd_dec (fun g3 => ?_) (fun g3 => ?_)
            · try simp only [go_sem, reduceIte, Nat.reduceEqDiff, Nat.reduceAdd, Nat.reduceSub, Nat.reduceMul, Nat.reduceLT, Nat.reduceLeDiff, Nat.reducePow, Int.reduceToNat, Int.reduceLT, Int.reduceLE, Int.reduceEq, Int.reduceNe, Int.reduceAdd, Int.reduceSub, Int.reduceMul, Int.reduceNeg, q0, q1, q5, q6, q7, q8, e1, e2, c2, ho, hv, hl3, gk', wk]
              exact ⟨⟨k + 1, by omega, rfl⟩, by omega⟩
            · try simp only [go_sem, reduceIte, Nat.reduceEqDiff, Nat.reduceAdd, Nat.reduceSub, Nat.reduceMul, Nat.reduceLT, Nat.reduceLeDiff, Nat.reducePow, Int.reduceToNat, Int.reduceLT, Int.reduceLE, Int.reduceEq, Int.reduceNe, Int.reduceAdd, Int.reduceSub, Int.reduceMul, Int.reduceNeg, q0, q1, q5, q6, q7, q8, e1, e2, c2, ho, hv, hl3, gk', wk]
              refine cd_dec (fun g4 => ?_) (fun g4 => ?_)
              · try simp only [go_sem, reduceIte, Nat.reduceEqDiff, Nat.reduceAdd, Nat.reduceSub, Nat.reduceMul, Nat.reduceLT, Nat.reduceLeDiff, Nat.reducePow, Int.reduceToNat, Int.reduceLT, Int.reduceLE, Int.reduceEq, Int.reduceNe, Int.reduceAdd, Int.reduceSub, Int.reduceMul, Int.reduceNeg, q0, q1, q5, q6, q7, q8, e1, e2, wj]
                exact ⟨⟨j + 1, n, by omega, by omega, rfl, .inr ⟨b, f, rfl, e2, hf⟩⟩, by omega⟩
              · try simp only [go_sem, reduceIte, Nat.reduceEqDiff, Nat.reduceAdd, Nat.reduceSub, Nat.reduceMul, Nat.reduceLT, Nat.reduceLeDiff, Nat.reducePow, Int.reduceToNat, Int.reduceLT, Int.reduceLE, Int.reduceEq, Int.reduceNe, Int.reduceAdd, Int.reduceSub, Int.reduceMul, Int.reduceNeg, q0, q1, q5, q6, q7, q8, e1, e2, c2, ho, hv, hl3, gk', wk]
                rw [srcB e2 kn hf]
                refine ⟨⟨by omega, by omega⟩, trivial, by simp; omega, fun t' _ => ⟨by omega, ?_⟩⟩
                refine bapV (R := [⟨false, wi, ws⟩]) elt26 zel26 (by omega) (by omega) trivial (.inr ⟨b, f, _, rfl, by split <;> rfl, e2, by omega⟩) (srcV .full [⟨false, wi, ws⟩]) (by simp; omega) fun d β' hd => ?_
                obtain ⟨b', f', rfl, hb', hf'⟩ := hd
                try simp only [go_sem, reduceIte, Nat.reduceEqDiff, Nat.reduceAdd, Nat.reduceSub, Nat.reduceMul, Nat.reduceLT, Nat.reduceLeDiff, Nat.reducePow, Int.reduceToNat, Int.reduceLT, Int.reduceLE, Int.reduceEq, Int.reduceNe, Int.reduceAdd, Int.reduceSub, Int.reduceMul, Int.reduceNeg, wj]
                refine bapV (R := (f.drop k).take (n - k)) elt26 zel26 (by omega) (by omega) trivial (.inr ⟨b', f', 0, rfl, rfl, hb', hf'⟩) (srcV (.live t' 3) _) (by simp; omega) fun d β' hd => ?_
                exact ⟨⟨j + 1, _, by omega, by simp; omega, rfl, .inr hd⟩, by omega⟩
          · have gk' := eq_false gk
            try simp only [go_sem, reduceIte, Nat.reduceEqDiff, Nat.reduceAdd, Nat.reduceSub, Nat.reduceMul, Nat.reduceLT, Nat.reduceLeDiff, Nat.reducePow, Int.reduceToNat, Int.reduceLT, Int.reduceLE, Int.reduceEq, Int.reduceNe, Int.reduceAdd, Int.reduceSub, Int.reduceMul, Int.reduceNeg, q0, q1, q5, q6, q7, q8, e1, e2, c2, ho, gk']
            rw [srcB e2 kn hf]
            refine ⟨⟨by omega, by omega⟩, trivial, by simp; omega, fun t' _ => ⟨by omega, ?_⟩⟩
            refine bapV (R := [⟨false, wi, ws⟩]) elt26 zel26 (by omega) (by omega) trivial (.inr ⟨b, f, _, rfl, by split <;> rfl, e2, by omega⟩) (srcV .full [⟨false, wi, ws⟩]) (by simp; omega) fun d β' hd => ?_
            obtain ⟨b', f', rfl, hb', hf'⟩ := hd
            try simp only [go_sem, reduceIte, Nat.reduceEqDiff, Nat.reduceAdd, Nat.reduceSub, Nat.reduceMul, Nat.reduceLT, Nat.reduceLeDiff, Nat.reducePow, Int.reduceToNat, Int.reduceLT, Int.reduceLE, Int.reduceEq, Int.reduceNe, Int.reduceAdd, Int.reduceSub, Int.reduceMul, Int.reduceNeg, wj]
            refine bapV (R := (f.drop k).take (n - k)) elt26 zel26 (by omega) (by omega) trivial (.inr ⟨b', f', 0, rfl, rfl, hb', hf'⟩) (srcV (.live t' 3) _) (by simp; omega) fun d β' hd => ?_
            exact ⟨⟨j + 1, _, by omega, by simp; omega, rfl, .inr hd⟩, by omega⟩
        · try simp only [go_sem, reduceIte, Nat.reduceEqDiff, Nat.reduceAdd, Nat.reduceSub, Nat.reduceMul, Nat.reduceLT, Nat.reduceLeDiff, Nat.reducePow, Int.reduceToNat, Int.reduceLT, Int.reduceLE, Int.reduceEq, Int.reduceNe, Int.reduceAdd, Int.reduceSub, Int.reduceMul, Int.reduceNeg, q0, q1, q5, q6, wj]
          refine ⟨⟨j + 1, n, by omega, by omega, rfl, .inr ⟨b, f, rfl, ?_, hf⟩⟩, by omega⟩
          simp [Heap.set, m1, hb]
      · try simp only [go_sem, reduceIte, Nat.reduceEqDiff, Nat.reduceAdd, Nat.reduceSub, Nat.reduceMul, Nat.reduceLT, Nat.reduceLeDiff, Nat.reducePow, Int.reduceToNat, Int.reduceLT, Int.reduceLE, Int.reduceEq, Int.reduceNe, Int.reduceAdd, Int.reduceSub, Int.reduceMul, Int.reduceNeg, q0, q1, q5, q6]
        exact finK_exact ⟨_, n, rfl, by omega, .inr ⟨b, f, rfl, hb, hf⟩⟩
  · rintro d β' ω' ⟨d', n, h1, hn, h⟩
    cases h1
    rcases h with ⟨rfl, rfl⟩ | ⟨b, f, rfl, hb, hf⟩
    · exact Turn.weak (finK_drop ⟨_, ⟨[], rfl, by simp⟩, rfl, rfl, rfl⟩)
    · refine Turn.bind (Turn.freeze (m := 3) (xs := (f.take n).map Vl.d) hb (vflat_obj f) hf (by rw [vflat_length]; omega) ?_ (fun x hx => (vl_cells _ x hx).1) (by simp; omega) (by simp [mostLen]; omega)) ?_
      · rw [vflat_take f n hf]; rfl
      · rintro d β ω ⟨t, ht, rfl, rfl, rfl⟩
        exact Turn.weak (finK_drop ⟨_, ⟨f.take n, rfl, by simp; omega⟩, rfl, rfl, rfl⟩)
  · rintro d β' ω' ⟨d', n, h1, _⟩
    cases h1
end Go.Proofs.YtnoenipdooackaaGreatDoorS
