
import Derived.Test.YtnoenipdooackaaGreatDoorF2
set_option linter.unusedVariables false
set_option linter.unusedSimpArgs false
namespace Go.Proofs.YtnoenipdooackaaGreatDoorS
open Go Go.Proofs.YtnoenipdooackaaGreatDoorV

variable {G : Heap}
attribute [local irreducible] VN VC VX VQ VT0

theorem okL_snoc (r : Int) : ∀ (l : List Bd) (p : Option Int) (b : Bd), okL r p (l ++ [b]) = (okL r p l && ((match (match l.getLast? with | some z => some z.id | none => p) with | none => true | some q => decide (q < b.id)) && bdOk r b))
  | [], p, b => by rw [List.nil_append, okL_cons, okL_nil, okL_nil]; cases p <;> simp
  | a :: l, p, b => by
    rw [List.cons_append, okL_cons, okL_snoc r l, okL_cons]
    have e : (match (a :: l).getLast? with | some z => some z.id | none => p) = (match l.getLast? with | some z => some z.id | none => some a.id) := by
      cases l with
      | nil => rfl
      | cons c l =>
        rw [List.getLast?_cons_cons]
        cases h : (c :: l).getLast? with
        | none => simp at h
        | some z => rfl
    rw [e]
    simp only [Bool.and_assoc]
theorem byt_encW (v : Vl) : Byt (encW v) := (byt_enc _).append ((byt_enc _).append (byt_sb _))
theorem byt_encB (r : Int) (b : Bd) : Byt (encB r b) := (byt_enc _).append ((byt_enc _).append (by
  split
  · exact (byt_encW _).append (byt_encW _)
  · exact Byt.nil))
theorem byt_flat {f : Bd → List Nat} (h : ∀ b, Byt (f b)) : ∀ l : List Bd, Byt (l.flatMap f)
  | [] => Byt.nil
  | b :: l => by rw [List.flatMap_cons]; exact (h b).append (byt_flat h l)
theorem byt_encS (u : Sm) : Byt (encS u) := (byt_enc _).append ((byt_enc _).append (byt_flat (byt_encB _) _))
theorem encS_len {u : Sm} (hf : formedF u = true) (hi : ∀ x ∈ u.l, x.I) : (encS u).length ≤ 40000 := by
  simp only [formedF, Bool.and_eq_true, decide_eq_true_eq] at hf
  obtain ⟨⟨⟨f1, f2⟩, f3⟩, f4⟩ := hf
  have h1 := enc_len (n := u.rows.toNat) (by omega)
  have h2 := enc_len (n := u.l.length) (by omega)
  have h3 := encBs_len (okL_mem _ _ _ f4) hi
  simp only [encS, List.length_append]
  omega
set_option maxHeartbeats 4000000 in
theorem Encode_t0 (hG : G 0 = some nullC) (tk : Tk) (bb : List Nat) (u : Sm) (hb : bb.length ≤ 2^40) (hi : ∀ x ∈ u.l, x.I) (hf : formedF u = true) : VT0 P G 10 [.sl tk (bs bb), .agg u.cells] (fun t => .sl (.live t 1) (bs (bb ++ encS u))) := by
  have hfm := formed_ok (G := G) hG u
  simp only [Sm.cells] at hfm ⊢
  unfold VT0
  refine VC.ofs (fun | 4 => [(0, []), (1, []), (2, []), (3, []), (5, []), (6, [4]), (7, []), (8, []), (4, []), (9, []), (10, [])] | 8 => [(0, []), (1, []), (2, []), (4, []), (5, [3]), (6, []), (3, []), (7, []), (8, [])] | 10 => [(0, []), (1, []), (2, []), (3, []), (5, []), (6, []), (7, [4]), (4, []), (8, []), (9, [])] | 11 => [(0, []), (1, []), (2, []), (3, []), (5, []), (6, []), (7, [4]), (4, []), (8, []), (9, [])] | 99999999 => [(0, [0, 1, 3, 4, 5, 7, 12, 25, 26, 27, 28, 43])] | _ => []) [4] mixed Tryz.func10 rfl rfl rfl rfl (by decide +kernel) (by simp) ?_
  simp only [go_sem, reduceIte, Nat.reduceEqDiff, Nat.reduceAdd, Nat.reduceSub, Nat.reduceMul, Nat.reduceLT, Nat.reduceLeDiff, Nat.reducePow, Int.reduceToNat, Int.reduceLT, Int.reduceLE, Int.reduceEq, Int.reduceNe, Int.reduceAdd, Int.reduceSub, Int.reduceMul, Int.reduceNeg]
  intro b0
  refine cK_vn (CloneB_ok _ bb (by omega)) ?_
  simp only [go_sem, reduceIte, Nat.reduceEqDiff, Nat.reduceAdd, Nat.reduceSub, Nat.reduceMul, Nat.reduceLT, Nat.reduceLeDiff, Nat.reducePow, Int.reduceToNat, Int.reduceLT, Int.reduceLE, Int.reduceEq, Int.reduceNe, Int.reduceAdd, Int.reduceSub, Int.reduceMul, Int.reduceNeg]
  refine cK_vn hfm ?_
  have hf' := hf
  simp only [formedF, Bool.and_eq_true, decide_eq_true_eq] at hf'
  obtain ⟨⟨⟨f1, f2⟩, f3⟩, f4⟩ := hf'
  have hall := okL_mem _ _ _ f4
  obtain ⟨rw_, hr⟩ : ∃ r : Nat, u.rows = r := ⟨u.rows.toNat, by omega⟩
  have w1 : IntKind.u64.wrap u.rows = ((u.rows.toNat : Nat) : Int) := by rw [wrap_u64]; omega
  have w2 : IntKind.u64.wrap ((u.l.map Bd.d).length : Int) = ((u.l.length : Nat) : Int) := by rw [wrap_u64, List.length_map]; omega
  have l1 := enc_len (n := u.rows.toNat) (by omega)
  have l2 := enc_len (n := u.l.length) (by omega)
  simp only [go_sem, reduceIte, Nat.reduceEqDiff, Nat.reduceAdd, Nat.reduceSub, Nat.reduceMul, Nat.reduceLT, Nat.reduceLeDiff, Nat.reducePow, Int.reduceToNat, Int.reduceLT, Int.reduceLE, Int.reduceEq, Int.reduceNe, Int.reduceAdd, Int.reduceSub, Int.reduceMul, Int.reduceNeg, hf, w1, w2]
  refine cE_t0 (U_ok _ bb u.rows.toNat (by omega) (by omega)) fun t1 _ => ?_
  simp only [go_sem, reduceIte, Nat.reduceEqDiff, Nat.reduceAdd, Nat.reduceSub, Nat.reduceMul, Nat.reduceLT, Nat.reduceLeDiff, Nat.reducePow, Int.reduceToNat, Int.reduceLT, Int.reduceLE, Int.reduceEq, Int.reduceNe, Int.reduceAdd, Int.reduceSub, Int.reduceMul, Int.reduceNeg, w1, w2]
  refine cE_t0 (U_ok _ (bb ++ enc u.rows.toNat) u.l.length (by rw [List.length_append]; omega) (by omega)) fun t2 _ => ?_
  try simp only [go_sem, reduceIte, Nat.reduceEqDiff, Nat.reduceAdd, Nat.reduceSub, Nat.reduceMul, Nat.reduceLT, Nat.reduceLeDiff, Nat.reducePow, Int.reduceToNat, Int.reduceLT, Int.reduceLE, Int.reduceEq, Int.reduceNe, Int.reduceAdd, Int.reduceSub, Int.reduceMul, Int.reduceNeg, w1, w2]
  generalize hβ : Heap.set _ b0 _ = β0
  have e0 : β0 b0 = some [.int .i64 u.rows, .sl .none (u.l.map Bd.d)] := by rw [← hβ]; simp [Heap.set]
  clear hβ
  refine vwq_loop (fun v => ∃ (j : Nat), j ≤ u.l.length ∧ v.σ 3 = .pb b0 0 ∧ (∃ t, t ∈ v.ω ∧ v.σ 5 = .sl (.live t 1) (bs (bb ++ enc u.rows.toNat ++ enc u.l.length ++ (u.l.take j).flatMap (encB u.rows)))) ∧ v.σ 25 = .sl .none (u.l.map Bd.d) ∧ v.σ 26 = .int .i64 u.l.length ∧ v.σ 27 = .int .i64 j ∧ v.β b0 = some [.int .i64 u.rows, .sl .none (u.l.map Bd.d)]) (fun v => u.l.length - (ival (v.σ 27)).toNat) ?_ ?_
  · exact ⟨0, by omega, rfl, ⟨t2, by simp, by simp only [List.take_zero, List.flatMap_nil, List.append_nil]; rfl⟩, rfl, by rw [← List.length_map (f := Bd.d)]; rfl, rfl, e0⟩
  clear e0 β0
  rintro σ β ω ⟨j, hj, q3, ⟨tt, htt, q5⟩, q25, q26, q27, e0⟩
  dsimp only at htt q3 q5 q25 q26 q27 e0
  try simp only [go_sem, reduceIte, Nat.reduceEqDiff, Nat.reduceAdd, Nat.reduceSub, Nat.reduceMul, Nat.reduceLT, Nat.reduceLeDiff, Nat.reducePow, Int.reduceToNat, Int.reduceLT, Int.reduceLE, Int.reduceEq, Int.reduceNe, Int.reduceAdd, Int.reduceSub, Int.reduceMul, Int.reduceNeg, q3, q5, q25, q26, q27, e0]
  refine cd_dec (fun g => ?_) (fun g => ?_)
  · obtain ⟨x, hx, ex⟩ := Bd_at (l := u.l) (j := j) (by rw [List.length_map]; omega)
    have hm := List.mem_of_getElem? hx
    have hbk := hall x hm
    obtain ⟨i1, i2, i3, i4⟩ := hi x hm
    have wj := wrap_i64 (x := (j : Int) + 1) (by omega) (by omega)
    have hn0 : 0 ≤ x.nulls := by
      simp only [bdOk, Bool.and_eq_true, decide_eq_true_eq] at hbk
      exact hbk.1.1.1.1
    have wn : x.nulls % 18446744073709551616 = ((x.nulls.toNat : Nat) : Int) := by omega
    have tl := encBs_len (r := u.rows) (l := u.l.take j) (fun y hy => hall y (List.mem_of_mem_take hy)) (fun y hy => hi y (List.mem_of_mem_take hy))
    rw [List.length_take] at tl
    have m1 := zig_len i1
    have m2 := enc_len (n := x.nulls.toNat) (by omega)
    have m3 := zig_len i3
    have m4 := zig_len i4
    obtain ⟨acc, hacc⟩ : ∃ acc, bb ++ enc u.rows.toNat ++ enc u.l.length ++ (u.l.take j).flatMap (encB u.rows) = acc := ⟨_, rfl⟩
    have al : acc.length ≤ 2^41 := by
      rw [← hacc]; simp only [List.length_append]; omega
    have ht : bb ++ enc u.rows.toNat ++ enc u.l.length ++ (u.l.take (j + 1)).flatMap (encB u.rows) = acc ++ encB u.rows x := by
      rw [List.take_add_one, hx, ← hacc]; simp
    rw [hacc] at q5
    try simp only [go_sem, reduceIte, Nat.reduceEqDiff, Nat.reduceAdd, Nat.reduceSub, Nat.reduceMul, Nat.reduceLT, Nat.reduceLeDiff, Nat.reducePow, Int.reduceToNat, Int.reduceLT, Int.reduceLE, Int.reduceEq, Int.reduceNe, Int.reduceAdd, Int.reduceSub, Int.reduceMul, Int.reduceNeg, q3, q5, q25, q26, q27, e0, ex, hacc]
    refine ⟨by rw [List.length_map]; omega, new_any fun b4 hb => ?_⟩
    have n0 := box_ne hb e0
    clear hb
    try simp only [go_sem, reduceIte, Nat.reduceEqDiff, Nat.reduceAdd, Nat.reduceSub, Nat.reduceMul, Nat.reduceLT, Nat.reduceLeDiff, Nat.reducePow, Int.reduceToNat, Int.reduceLT, Int.reduceLE, Int.reduceEq, Int.reduceNe, Int.reduceAdd, Int.reduceSub, Int.reduceMul, Int.reduceNeg, q3, q5, q25, q26, q27, e0, ex, n0]
    refine cE_t0 (S_ok _ acc x.id i1 (by omega) (by omega)) fun t3 _ => ?_
    try simp only [go_sem, reduceIte, Nat.reduceEqDiff, Nat.reduceAdd, Nat.reduceSub, Nat.reduceMul, Nat.reduceLT, Nat.reduceLeDiff, Nat.reducePow, Int.reduceToNat, Int.reduceLT, Int.reduceLE, Int.reduceEq, Int.reduceNe, Int.reduceAdd, Int.reduceSub, Int.reduceMul, Int.reduceNeg, q3, q5, q25, q26, q27, e0, ex, n0, wn]
    refine cE_t0 (U_ok _ (acc ++ enc (zig x.id)) x.nulls.toNat (by rw [List.length_append]; omega) (by omega)) fun t3 _ => ?_
    try simp only [go_sem, reduceIte, Nat.reduceEqDiff, Nat.reduceAdd, Nat.reduceSub, Nat.reduceMul, Nat.reduceLT, Nat.reduceLeDiff, Nat.reducePow, Int.reduceToNat, Int.reduceLT, Int.reduceLE, Int.reduceEq, Int.reduceNe, Int.reduceAdd, Int.reduceSub, Int.reduceMul, Int.reduceNeg, q3, q5, q25, q26, q27, e0, ex, n0, wn]
    refine cd_dec (fun k => ?_) (fun k => ?_)
    · obtain ⟨s1, s2, s3⟩ := bdOk_s hbk k
      have m5 := enc_len (n := x.min.s.size) (by omega)
      have m6 := enc_len (n := x.max.s.size) (by omega)
      try simp only [go_sem, reduceIte, Nat.reduceEqDiff, Nat.reduceAdd, Nat.reduceSub, Nat.reduceMul, Nat.reduceLT, Nat.reduceLeDiff, Nat.reducePow, Int.reduceToNat, Int.reduceLT, Int.reduceLE, Int.reduceEq, Int.reduceNe, Int.reduceAdd, Int.reduceSub, Int.reduceMul, Int.reduceNeg, q3, q5, q25, q26, q27, e0, ex, n0]
      refine cE_t0 (S_ok _ (acc ++ enc (zig x.id) ++ enc x.nulls.toNat) x.min.n i3 (by simp only [List.length_append]; omega) (by omega)) fun t3 _ => ?_
      try simp only [go_sem, reduceIte, Nat.reduceEqDiff, Nat.reduceAdd, Nat.reduceSub, Nat.reduceMul, Nat.reduceLT, Nat.reduceLeDiff, Nat.reducePow, Int.reduceToNat, Int.reduceLT, Int.reduceLE, Int.reduceEq, Int.reduceNe, Int.reduceAdd, Int.reduceSub, Int.reduceMul, Int.reduceNeg, q3, q5, q25, q26, q27, e0, ex, n0]
      refine cE_t0 (Text_ok _ ((acc ++ enc (zig x.id) ++ enc x.nulls.toNat) ++ enc (zig x.min.n)) x.min.s (by simp only [List.length_append]; omega) (by omega)) fun t3 _ => ?_
      try simp only [go_sem, reduceIte, Nat.reduceEqDiff, Nat.reduceAdd, Nat.reduceSub, Nat.reduceMul, Nat.reduceLT, Nat.reduceLeDiff, Nat.reducePow, Int.reduceToNat, Int.reduceLT, Int.reduceLE, Int.reduceEq, Int.reduceNe, Int.reduceAdd, Int.reduceSub, Int.reduceMul, Int.reduceNeg, q3, q5, q25, q26, q27, e0, ex, n0]
      refine cE_t0 (S_ok _ (((acc ++ enc (zig x.id) ++ enc x.nulls.toNat) ++ enc (zig x.min.n)) ++ enc x.min.s.size ++ sb x.min.s) x.max.n i4 (by simp only [List.length_append, sb_len]; omega) (by omega)) fun t3 _ => ?_
      try simp only [go_sem, reduceIte, Nat.reduceEqDiff, Nat.reduceAdd, Nat.reduceSub, Nat.reduceMul, Nat.reduceLT, Nat.reduceLeDiff, Nat.reducePow, Int.reduceToNat, Int.reduceLT, Int.reduceLE, Int.reduceEq, Int.reduceNe, Int.reduceAdd, Int.reduceSub, Int.reduceMul, Int.reduceNeg, q3, q5, q25, q26, q27, e0, ex, n0]
      refine cE_t0 (Text_ok _ ((((acc ++ enc (zig x.id) ++ enc x.nulls.toNat) ++ enc (zig x.min.n)) ++ enc x.min.s.size ++ sb x.min.s) ++ enc (zig x.max.n)) x.max.s (by simp only [List.length_append, sb_len]; omega) (by omega)) fun t3 _ => ?_
      try simp only [go_sem, reduceIte, Nat.reduceEqDiff, Nat.reduceAdd, Nat.reduceSub, Nat.reduceMul, Nat.reduceLT, Nat.reduceLeDiff, Nat.reducePow, Int.reduceToNat, Int.reduceLT, Int.reduceLE, Int.reduceEq, Int.reduceNe, Int.reduceAdd, Int.reduceSub, Int.reduceMul, Int.reduceNeg, q3, q5, q25, q26, q27, e0, ex, n0, wj]
      refine ⟨⟨j + 1, by omega, ?_⟩, by omega⟩
      rw [ht]
      simp [Heap.set, n0, e0, encB, k, encW]
    · try simp only [go_sem, reduceIte, Nat.reduceEqDiff, Nat.reduceAdd, Nat.reduceSub, Nat.reduceMul, Nat.reduceLT, Nat.reduceLeDiff, Nat.reducePow, Int.reduceToNat, Int.reduceLT, Int.reduceLE, Int.reduceEq, Int.reduceNe, Int.reduceAdd, Int.reduceSub, Int.reduceMul, Int.reduceNeg, q3, q5, q25, q26, q27, e0, ex, n0, wj]
      refine ⟨⟨j + 1, by omega, ?_⟩, by omega⟩
      rw [ht]
      simp [Heap.set, n0, e0, encB, k]
  · try simp only [go_sem, reduceIte, Nat.reduceEqDiff, Nat.reduceAdd, Nat.reduceSub, Nat.reduceMul, Nat.reduceLT, Nat.reduceLeDiff, Nat.reducePow, Int.reduceToNat, Int.reduceLT, Int.reduceLE, Int.reduceEq, Int.reduceNe, Int.reduceAdd, Int.reduceSub, Int.reduceMul, Int.reduceNeg, q3, q5, q25, q26, q27, e0]
    rw [List.take_of_length_le (by omega)]
    exact ⟨_, Heap.nil, [tt], Wk.refl _, fun b cs hb => by (cases hb), fun t ht => by simp at ht; rw [ht]; exact htt, tt, by simp [encS], rfl, rfl⟩
end Go.Proofs.YtnoenipdooackaaGreatDoorS
