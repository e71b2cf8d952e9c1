
import Derived.Test.YtnoenipdooackaaGreatDoorCC
import Derived.Test.YtnoenipdooackaaGreatDoorV27
set_option linter.unusedVariables false
set_option linter.unusedSimpArgs false
namespace Go.Proofs.YtnoenipdooackaaGreatDoorS
open Go Go.Proofs.YtnoenipdooackaaGreatDoorV

variable {G : Heap}
attribute [local irreducible] VN VC VX VQ

theorem guard62 : P.eqGuardType P.depth 62 = false := by decide +kernel
theorem stood62 : P.stoodInHeld 62 = false := by decide +kernel
theorem str_beq (s s' : ByteArray) : (s == s') = true ↔ s = s' := by
  show (s.data == s'.data) = true ↔ _
  simp [ByteArray.ext_iff]
theorem eqv62 (a a' b b' d d' g g' : Int) (c c' f f' : Bool) (e e' h h' : ByteArray) : eqv P 6 62 (.agg [.int .i64 a, .int .i64 b, .bool c, .int .i64 d, .str e, .bool f, .int .i64 g, .str h]) (.agg [.int .i64 a', .int .i64 b', .bool c', .int .i64 d', .str e', .bool f', .int .i64 g', .str h']) =
    (decide ((⟨a, b, ⟨c, d, e⟩, ⟨f, g, h⟩⟩ : Bd) = ⟨a', b', ⟨c', d', e'⟩, ⟨f', g', h'⟩⟩), True) := by
  simp only [eqv, eqF, Tryz.underlying62, Tryz.underlying3, Tryz.underlying60, stood62]
  simp only [go_sem, reduceIte, Nat.reduceEqDiff, Nat.reduceAdd, Nat.reduceSub, Nat.reduceMul, Nat.reduceLT, Nat.reduceLeDiff, Nat.reducePow, Int.reduceToNat, Int.reduceLT, Int.reduceLE, Int.reduceEq, Int.reduceNe, Int.reduceAdd, Int.reduceSub, Int.reduceMul, Int.reduceNeg]
  simp only [eqv, eqF, Tryz.underlying60, Tryz.underlying4, Tryz.underlying2, Tryz.underlying3, Tryz.underlying9, stood60]
  simp only [go_sem, reduceIte, Nat.reduceEqDiff, Nat.reduceAdd, Nat.reduceSub, Nat.reduceMul, Nat.reduceLT, Nat.reduceLeDiff, Nat.reducePow, Int.reduceToNat, Int.reduceLT, Int.reduceLE, Int.reduceEq, Int.reduceNe, Int.reduceAdd, Int.reduceSub, Int.reduceMul, Int.reduceNeg]
  simp only [eqv, eqF, Tryz.underlying60, Tryz.underlying4, Tryz.underlying2, Tryz.underlying3, Tryz.underlying9, stood60]
  refine Prod.ext ?_ (by simp)
  dsimp only
  rw [Bool.eq_iff_iff]
  simp only [Bool.and_eq_true, beq_iff_eq, decide_eq_true_eq, str_beq, Bd.mk.injEq, Vl.mk.injEq, and_assoc, and_true]
attribute [go_sem] eqv62 guard62
def coversF (u : Sm) (r : Rw) : Bool := decide (0 < u.rows) && u.l.all fun b =>
  let v := getV r b.id
  if v.null = true then decide (0 < b.nulls) else !(decide (u.rows ≤ b.nulls) || b.min.null || b.max.null) && !(decide (cmpV v b.min < 0) || decide (0 < cmpV v b.max))
theorem getV_cells (r : Rw) (id : Int) : (getV r id).cells = [.bool (getV r id).null, .int .i64 (getV r id).n, .str (getV r id).s] := rfl
set_option maxHeartbeats 2000000 in
theorem Covers_ok (hG : G 0 = some nullC) (u : Sm) (r : Rw) : VN P G 19 [.agg u.cells, .agg [.sl .none (r.map clD)]] (.bool (coversF u r)) := by
  simp only [Sm.cells]
  unfold VN
  refine VC.small2 fun hsm => ?_
  have z1 := hsm (.agg u.cells) (List.mem_cons_self ..) (.sl .none (u.l.map Bd.d)) (by simp [D.cells, Sm.cells])
  simp only [Small, mostLen, List.length_map] at z1
  clear hsm
  refine VC.ofs (fun | 99999999 => [(0, [0, 1, 2, 3, 4, 6, 7, 10, 12, 13, 14, 15, 22, 30, 44])] | _ => []) [4] mixed Tryz.func19 rfl rfl rfl rfl (by decide +kernel) (by simp) ?_
  simp only [go_sem, reduceIte, Nat.reduceEqDiff, Nat.reduceAdd, Nat.reduceSub, Nat.reduceMul, Nat.reduceLT, Nat.reduceLeDiff, Nat.reducePow, Int.reduceToNat, Int.reduceLT, Int.reduceLE, Int.reduceEq, Int.reduceNe, Int.reduceAdd, Int.reduceSub, Int.reduceMul, Int.reduceNeg]
  intro b0
  refine new_1 fun b1 h1 h2 => ?_
  simp only [go_sem, reduceIte, Nat.reduceEqDiff, Nat.reduceAdd, Nat.reduceSub, Nat.reduceMul, Nat.reduceLT, Nat.reduceLeDiff, Nat.reducePow, Int.reduceToNat, Int.reduceLT, Int.reduceLE, Int.reduceEq, Int.reduceNe, Int.reduceAdd, Int.reduceSub, Int.reduceMul, Int.reduceNeg, h1, h2]
  refine cd_dec (fun k => ?_) (fun k => ?_)
  · simp only [go_sem, reduceIte, Nat.reduceEqDiff, Nat.reduceAdd, Nat.reduceSub, Nat.reduceMul, Nat.reduceLT, Nat.reduceLeDiff, Nat.reducePow, Int.reduceToNat, Int.reduceLT, Int.reduceLE, Int.reduceEq, Int.reduceNe, Int.reduceAdd, Int.reduceSub, Int.reduceMul, Int.reduceNeg, h1, h2]
    exact finK_drop ⟨by rw [coversF, decide_eq_false (by omega)]; rfl, rfl, rfl⟩
  try simp only [go_sem, reduceIte, Nat.reduceEqDiff, Nat.reduceAdd, Nat.reduceSub, Nat.reduceMul, Nat.reduceLT, Nat.reduceLeDiff, Nat.reducePow, Int.reduceToNat, Int.reduceLT, Int.reduceLE, Int.reduceEq, Int.reduceNe, Int.reduceAdd, Int.reduceSub, Int.reduceMul, Int.reduceNeg, h1, h2]
  generalize hβ : Heap.set _ b1 _ = β0
  have e0 : β0 b0 = some [.int .i64 u.rows, .sl .none (u.l.map Bd.d)] := by rw [← hβ]; simp [Heap.set, h1, h2]
  have e1 : β0 b1 = some [.sl .none (r.map clD)] := by rw [← hβ]; simp [Heap.set, h1, h2]
  clear hβ
  refine vwq_loop (fun v => ∃ (j : Nat), j ≤ u.l.length ∧ coversF ⟨u.rows, u.l.drop j⟩ r = coversF u r ∧ v.σ 2 = .pb b0 0 ∧ v.σ 3 = .pb b1 0 ∧ v.σ 12 = .sl .none (u.l.map Bd.d) ∧ v.σ 13 = .int .i64 u.l.length ∧ v.σ 14 = .int .i64 j ∧ v.β b0 = some [.int .i64 u.rows, .sl .none (u.l.map Bd.d)] ∧ v.β b1 = some [.sl .none (r.map clD)] ∧ v.ω = []) (fun v => u.l.length - (ival (v.σ 14)).toNat) ?_ ?_
  · exact ⟨0, by omega, rfl, rfl, rfl, rfl, by rw [← List.length_map (f := Bd.d)]; rfl, rfl, e0, e1, rfl⟩
  clear e0 e1 β0
  rintro σ β ω ⟨j, hj, hc, q2, q3, q12, q13, q14, e0, e1, rfl⟩
  dsimp only at q2 q3 q12 q13 q14 e0 e1
  try simp only [go_sem, reduceIte, Nat.reduceEqDiff, Nat.reduceAdd, Nat.reduceSub, Nat.reduceMul, Nat.reduceLT, Nat.reduceLeDiff, Nat.reducePow, Int.reduceToNat, Int.reduceLT, Int.reduceLE, Int.reduceEq, Int.reduceNe, Int.reduceAdd, Int.reduceSub, Int.reduceMul, Int.reduceNeg, q2, q3, q12, q13, q14, e0, e1]
  refine cd_dec (fun g => ?_) (fun g => ?_)
  · obtain ⟨x, hx, ex⟩ := Bd_at (l := u.l) (j := j) (by rw [List.length_map]; omega)
    have hd := drop_at hx
    have wj := wrap_i64 (x := (j : Int) + 1) (by omega) (by omega)
    have hgc := get_ok (G := G) hG r x.id
    have hc1 := Compare_ok (G := G) (getV r x.id) x.min
    have hc2 := Compare_ok (G := G) (getV r x.id) x.max
    simp only [Vl.cells, Vl.d] at hgc hc1 hc2
    try simp only [go_sem, reduceIte, Nat.reduceEqDiff, Nat.reduceAdd, Nat.reduceSub, Nat.reduceMul, Nat.reduceLT, Nat.reduceLeDiff, Nat.reducePow, Int.reduceToNat, Int.reduceLT, Int.reduceLE, Int.reduceEq, Int.reduceNe, Int.reduceAdd, Int.reduceSub, Int.reduceMul, Int.reduceNeg, q2, q3, q12, q13, q14, e0, e1, ex]
    refine ⟨by rw [List.length_map]; omega, new_any fun b4 hb => ?_⟩
    have n0 := box_ne hb e0
    have n1 := box_ne hb e1
    clear hb
    try simp only [go_sem, reduceIte, Nat.reduceEqDiff, Nat.reduceAdd, Nat.reduceSub, Nat.reduceMul, Nat.reduceLT, Nat.reduceLeDiff, Nat.reducePow, Int.reduceToNat, Int.reduceLT, Int.reduceLE, Int.reduceEq, Int.reduceNe, Int.reduceAdd, Int.reduceSub, Int.reduceMul, Int.reduceNeg, q2, q3, q12, q13, q14, e0, e1, ex, n0, n1]
    refine cK_vn hgc ?_
    try simp only [go_sem, reduceIte, Nat.reduceEqDiff, Nat.reduceAdd, Nat.reduceSub, Nat.reduceMul, Nat.reduceLT, Nat.reduceLeDiff, Nat.reducePow, Int.reduceToNat, Int.reduceLT, Int.reduceLE, Int.reduceEq, Int.reduceNe, Int.reduceAdd, Int.reduceSub, Int.reduceMul, Int.reduceNeg, q2, q3, q12, q13, q14, e0, e1, ex, n0, n1]
    refine new_any fun b5 hb => ?_
    simp only [set_none] at hb
    have p0 := box_ne hb.2.2 e0
    have p1 := box_ne hb.2.2 e1
    have ec : coversF ⟨u.rows, u.l.drop j⟩ r = ((if (getV r x.id).null = true then decide (0 < x.nulls) else !(decide (u.rows ≤ x.nulls) || x.min.null || x.max.null) && !(decide (cmpV (getV r x.id) x.min < 0) || decide (0 < cmpV (getV r x.id) x.max))) && coversF ⟨u.rows, u.l.drop (j + 1)⟩ r) := by
      rw [hd]
      simp only [coversF, List.all_cons]
      cases decide (0 < u.rows) <;> simp
    rw [ec] at hc
    by_cases kn : (getV r x.id).null = true
    · simp only [kn, if_true] at hc
      repeat' (first | refine cd_dec (fun _ => ?_) (fun _ => ?_) | refine cd_b (fun _ => ?_) (fun _ => ?_) | simp only [go_sem, reduceIte, Nat.reduceEqDiff, Nat.reduceAdd, Nat.reduceSub, Nat.reduceMul, Nat.reduceLT, Nat.reduceLeDiff, Nat.reducePow, Int.reduceToNat, Int.reduceLT, Int.reduceLE, Int.reduceEq, Int.reduceNe, Int.reduceAdd, Int.reduceSub, Int.reduceMul, Int.reduceNeg, q2, q3, q12, q13, q14, e0, e1, ex, n0, n1, p0, p1, hb, wj, kn])
      · rename_i k1
        rw [decide_eq_true k1, Bool.true_and] at hc
        exact ⟨⟨j + 1, by omega, hc, rfl⟩, by omega⟩
      · rename_i k1
        rw [decide_eq_false k1, Bool.false_and] at hc
        exact finK_drop ⟨by rw [← hc]; rfl, rfl, rfl⟩
    · have kn' : (getV r x.id).null = false := by simpa using kn
      rw [kn'] at hc1 hc2
      simp only [kn', Bool.false_eq_true, if_false] at hc
      by_cases k3 : cmpV (getV r x.id) x.min < 0
      all_goals repeat' (first | refine cd_dec (fun _ => ?_) (fun _ => ?_) | refine cd_b (fun _ => ?_) (fun _ => ?_) | refine cK_vn hc1 ?_ | refine cK_vn hc2 ?_ | simp only [go_sem, reduceIte, Nat.reduceEqDiff, Nat.reduceAdd, Nat.reduceSub, Nat.reduceMul, Nat.reduceLT, Nat.reduceLeDiff, Nat.reducePow, Int.reduceToNat, Int.reduceLT, Int.reduceLE, Int.reduceEq, Int.reduceNe, Int.reduceAdd, Int.reduceSub, Int.reduceMul, Int.reduceNeg, q2, q3, q12, q13, q14, e0, e1, ex, n0, n1, p0, p1, hb, wj, kn', k3])
      all_goals first
        | (refine finK_drop ⟨?_, rfl, rfl⟩; rw [← hc]; clear hc ec hc1 hc2 hgc; simp [*, D.er, D.er1]; done)
        | (refine ⟨⟨j + 1, by omega, ?_, rfl⟩, by omega⟩; rw [← hc]; clear hc ec hc1 hc2 hgc; simp [*]; done)
        | (exfalso; omega)
        | (exfalso; clear hd ex hx q2 q3 q12 q13 q14 e0 e1 hc1 hc2 hgc ec hc; simp_all; done)
  · try simp only [go_sem, reduceIte, Nat.reduceEqDiff, Nat.reduceAdd, Nat.reduceSub, Nat.reduceMul, Nat.reduceLT, Nat.reduceLeDiff, Nat.reducePow, Int.reduceToNat, Int.reduceLT, Int.reduceLE, Int.reduceEq, Int.reduceNe, Int.reduceAdd, Int.reduceSub, Int.reduceMul, Int.reduceNeg, q2, q3, q12, q13, q14, e0, e1]
    rw [List.drop_eq_nil_of_le (by omega), coversF] at hc
    have hc2 : coversF u r = true := by
      rw [← hc, List.all_nil, Bool.and_true]
      exact decide_eq_true (by show 0 < u.rows; omega)
    exact finK_drop ⟨by rw [hc2]; rfl, rfl, rfl⟩

def smSame (a b : Sm) : Bool := decide (a.rows = b.rows ∧ a.l = b.l)
set_option maxHeartbeats 2000000 in
theorem refSame_ok (a b : Sm) : VN P G 11 [.agg a.cells, .agg b.cells] (.bool (smSame a b)) := by
  simp only [Sm.cells]
  unfold VN
  refine VC.small2 fun hsm => ?_
  have z1 := hsm (.agg a.cells) (List.mem_cons_self ..) (.sl .none (a.l.map Bd.d)) (by simp [D.cells, Sm.cells])
  simp only [Small, mostLen, List.length_map] at z1
  clear hsm
  refine VC.ofs (fun | 6 => [(0, []), (1, []), (2, []), (3, []), (4, []), (5, []), (6, []), (7, []), (8, []), (9, []), (10, [])] | 99999999 => [(0, [0, 1, 2, 3, 4, 5, 19, 24, 37])] | _ => []) [4] mixed Tryz.func11 rfl rfl rfl rfl (by decide +kernel) (by simp) ?_
  simp only [go_sem, reduceIte, Nat.reduceEqDiff, Nat.reduceAdd, Nat.reduceSub, Nat.reduceMul, Nat.reduceLT, Nat.reduceLeDiff, Nat.reducePow, Int.reduceToNat, Int.reduceLT, Int.reduceLE, Int.reduceEq, Int.reduceNe, Int.reduceAdd, Int.reduceSub, Int.reduceMul, Int.reduceNeg]
  intro b0
  refine new_1 fun b1 h1 h2 => ?_
  simp only [go_sem, reduceIte, Nat.reduceEqDiff, Nat.reduceAdd, Nat.reduceSub, Nat.reduceMul, Nat.reduceLT, Nat.reduceLeDiff, Nat.reducePow, Int.reduceToNat, Int.reduceLT, Int.reduceLE, Int.reduceEq, Int.reduceNe, Int.reduceAdd, Int.reduceSub, Int.reduceMul, Int.reduceNeg, h1, h2]
  by_cases k1 : a.rows = b.rows
  · by_cases k2 : a.l.length = b.l.length
    · have k2' : ((a.l.map Bd.d).length : Int) = ((b.l.map Bd.d).length : Nat) := by simp [k2]
      have f1 := eq_true k1
      have f2 := eq_true k2'
      try simp only [go_sem, reduceIte, Nat.reduceEqDiff, Nat.reduceAdd, Nat.reduceSub, Nat.reduceMul, Nat.reduceLT, Nat.reduceLeDiff, Nat.reducePow, Int.reduceToNat, Int.reduceLT, Int.reduceLE, Int.reduceEq, Int.reduceNe, Int.reduceAdd, Int.reduceSub, Int.reduceMul, Int.reduceNeg, h1, h2, ne_eq, f1, f2, not_true_eq_false]
      generalize hβ : Heap.set _ b1 _ = β0
      have e0 : β0 b0 = some [.int .i64 a.rows, .sl .none (a.l.map Bd.d)] := by rw [← hβ]; simp [Heap.set, h1, h2]
      have e1 : β0 b1 = some [.int .i64 b.rows, .sl .none (b.l.map Bd.d)] := by rw [← hβ]; simp [Heap.set, h1, h2]
      clear hβ
      refine vwq_loop (fun v => ∃ (j : Nat), j ≤ a.l.length ∧ a.l.take j = b.l.take j ∧ v.σ 2 = .pb b0 0 ∧ v.σ 3 = .pb b1 0 ∧ v.σ 5 = .int .i64 j ∧ v.β = β0 ∧ v.ω = []) (fun v => a.l.length - (ival (v.σ 5)).toNat) ⟨0, by omega, rfl, rfl, rfl, rfl, rfl, rfl⟩ ?_
      rintro σ β ω ⟨j, hj, ht, q2, q3, q5, rfl, rfl⟩
      dsimp only at q2 q3 q5 e0 e1
      try simp only [go_sem, reduceIte, Nat.reduceEqDiff, Nat.reduceAdd, Nat.reduceSub, Nat.reduceMul, Nat.reduceLT, Nat.reduceLeDiff, Nat.reducePow, Int.reduceToNat, Int.reduceLT, Int.reduceLE, Int.reduceEq, Int.reduceNe, Int.reduceAdd, Int.reduceSub, Int.reduceMul, Int.reduceNeg, q2, q3, q5, e0, e1]
      refine cd_dec (fun g => ?_) (fun g => ?_)
      · obtain ⟨x, hx, ex⟩ := Bd_at g
        obtain ⟨y, hy, ey⟩ := Bd_at (l := b.l) (j := j) (by omega)
        rw [List.length_map] at g
        have wj := wrap_i64 (x := (j : Int) + 1) (by omega) (by omega)
        have c1 : ((0 : Int) ≤ j) = True := eq_true (by omega)
        have c2 : ((j : Int) < ((a.l.map Bd.d).length : Nat)) = True := eq_true (by rw [List.length_map]; omega)
        have c3 : ((j : Int) < ((b.l.map Bd.d).length : Nat)) = True := eq_true (by rw [List.length_map]; omega)
        try simp only [go_sem, reduceIte, Nat.reduceEqDiff, Nat.reduceAdd, Nat.reduceSub, Nat.reduceMul, Nat.reduceLT, Nat.reduceLeDiff, Nat.reducePow, Int.reduceToNat, Int.reduceLT, Int.reduceLE, Int.reduceEq, Int.reduceNe, Int.reduceAdd, Int.reduceSub, Int.reduceMul, Int.reduceNeg, q2, q3, q5, e0, e1, ex, ey, c1, c2, c3]
        refine cd_dec (fun g1 => ?_) (fun g1 => ?_)
        · try simp only [go_sem, reduceIte, Nat.reduceEqDiff, Nat.reduceAdd, Nat.reduceSub, Nat.reduceMul, Nat.reduceLT, Nat.reduceLeDiff, Nat.reducePow, Int.reduceToNat, Int.reduceLT, Int.reduceLE, Int.reduceEq, Int.reduceNe, Int.reduceAdd, Int.reduceSub, Int.reduceMul, Int.reduceNeg, q2, q3, q5, e0, e1, ex, ey]
          have ne : ¬ (a.l = b.l) := fun h => by
            rw [h, hy] at hx; cases hx; exact g1 rfl
          exact finK_drop ⟨by simp [smSame, ne, D.er, D.er1], rfl, rfl⟩
        · try simp only [go_sem, reduceIte, Nat.reduceEqDiff, Nat.reduceAdd, Nat.reduceSub, Nat.reduceMul, Nat.reduceLT, Nat.reduceLeDiff, Nat.reducePow, Int.reduceToNat, Int.reduceLT, Int.reduceLE, Int.reduceEq, Int.reduceNe, Int.reduceAdd, Int.reduceSub, Int.reduceMul, Int.reduceNeg, q2, q3, q5, e0, e1, ex, ey, wj]
          have exy : x = y := Decidable.not_not.1 g1
          exact ⟨⟨j + 1, by omega, by rw [List.take_add_one, List.take_add_one, ht, hx, hy, exy], rfl⟩, by omega⟩
      · try simp only [go_sem, reduceIte, Nat.reduceEqDiff, Nat.reduceAdd, Nat.reduceSub, Nat.reduceMul, Nat.reduceLT, Nat.reduceLeDiff, Nat.reducePow, Int.reduceToNat, Int.reduceLT, Int.reduceLE, Int.reduceEq, Int.reduceNe, Int.reduceAdd, Int.reduceSub, Int.reduceMul, Int.reduceNeg, q2, q3, q5, e0, e1]
        rw [List.length_map] at g
        have eq : a.l = b.l := by
          rw [List.take_of_length_le (by omega), List.take_of_length_le (by omega)] at ht; exact ht
        exact finK_drop ⟨by simp [smSame, eq, k1, D.er, D.er1], rfl, rfl⟩
    · have k2' : ¬ ((a.l.map Bd.d).length : Int) = ((b.l.map Bd.d).length : Nat) := by simp; omega
      have f1 := eq_true k1
      have f2 := eq_false k2'
      try simp only [go_sem, reduceIte, Nat.reduceEqDiff, Nat.reduceAdd, Nat.reduceSub, Nat.reduceMul, Nat.reduceLT, Nat.reduceLeDiff, Nat.reducePow, Int.reduceToNat, Int.reduceLT, Int.reduceLE, Int.reduceEq, Int.reduceNe, Int.reduceAdd, Int.reduceSub, Int.reduceMul, Int.reduceNeg, h1, h2, ne_eq, f1, f2, not_true_eq_false]
      have ne : ¬ (a.l = b.l) := fun h => k2 (by rw [h])
      exact finK_drop ⟨by simp [smSame, ne, D.er, D.er1], rfl, rfl⟩
  · have f1 := eq_false k1
    try simp only [go_sem, reduceIte, Nat.reduceEqDiff, Nat.reduceAdd, Nat.reduceSub, Nat.reduceMul, Nat.reduceLT, Nat.reduceLeDiff, Nat.reducePow, Int.reduceToNat, Int.reduceLT, Int.reduceLE, Int.reduceEq, Int.reduceNe, Int.reduceAdd, Int.reduceSub, Int.reduceMul, Int.reduceNeg, h1, h2, ne_eq, f1, not_true_eq_false]
    exact finK_drop ⟨by simp [smSame, k1, D.er, D.er1], rfl, rfl⟩
end Go.Proofs.YtnoenipdooackaaGreatDoorS
namespace Go.Proofs.YtnoenipdooackaaGreatDoorS
open Go Go.Proofs.YtnoenipdooackaaGreatDoorV

variable {G : Heap}
attribute [local irreducible] VN VC VX VQ

theorem CloneB_ok (tk : Tk) (l : List Nat) (h : l.length ≤ 2^45) : VN P G 35 [.sl tk (bs l)] (.sl .none (bs l)) := by
  unfold VN
  refine VC.nilcmps (fun | 99999999 => [(0, [0, 2, 4])] | _ => []) [2] mixed Tryz.func35 rfl rfl rfl (by simp) (by decide +kernel) (by decide +kernel) Tryz.underlying46 ?_
  simp only [go_sem, reduceIte, Nat.reduceEqDiff, Nat.reduceAdd, Nat.reduceSub, Nat.reduceMul, Nat.reduceLT, Nat.reduceLeDiff, Nat.reducePow, Int.reduceToNat, Int.reduceLT, Int.reduceLE, Int.reduceEq, Int.reduceNe, Int.reduceAdd, Int.reduceSub, Int.reduceMul, Int.reduceNeg]
  refine ⟨_, _, rfl, fun b hb => ?_⟩
  cases b
  all_goals simp only [go_sem, reduceIte, Nat.reduceEqDiff, Nat.reduceAdd, Nat.reduceSub, Nat.reduceMul, Nat.reduceLT, Nat.reduceLeDiff, Nat.reducePow, Int.reduceToNat, Int.reduceLT, Int.reduceLE, Int.reduceEq, Int.reduceNe, Int.reduceAdd, Int.reduceSub, Int.reduceMul, Int.reduceNeg, cd_true, cd_false]
  · exact ⟨by omega, fun t' => finK_drop ⟨rfl, rfl, rfl⟩⟩
  · have := hb rfl
    cases l with
    | nil => exact finK_drop ⟨rfl, rfl, rfl⟩
    | cons a l => cases this
def limitF (v : Vl) (none : Bool) : Bool := if none then decide (v = Vl.nul) else !v.null && decide (v.s.size ≤ 200)
theorem limit_ok (hG : G 0 = some nullC) (v : Vl) (none : Bool) : VN P G 56 [.agg v.cells, .bool none] (.bool (limitF v none)) := by
  simp only [Vl.cells]
  unfold VN
  refine VC.ofs (fun | 99999999 => [(0, [0, 1, 2, 4, 5])] | _ => []) [4] mixed Tryz.func56 rfl rfl rfl rfl (by decide +kernel) (by simp) ?_
  cases none
  all_goals simp only [go_sem, reduceIte, Nat.reduceEqDiff, Nat.reduceAdd, Nat.reduceSub, Nat.reduceMul, Nat.reduceLT, Nat.reduceLeDiff, Nat.reducePow, Int.reduceToNat, Int.reduceLT, Int.reduceLE, Int.reduceEq, Int.reduceNe, Int.reduceAdd, Int.reduceSub, Int.reduceMul, Int.reduceNeg]
  all_goals intro b0
  all_goals by_cases k : v.null = true
  all_goals try simp only [go_sem, reduceIte, Nat.reduceEqDiff, Nat.reduceAdd, Nat.reduceSub, Nat.reduceMul, Nat.reduceLT, Nat.reduceLeDiff, Nat.reducePow, Int.reduceToNat, Int.reduceLT, Int.reduceLE, Int.reduceEq, Int.reduceNe, Int.reduceAdd, Int.reduceSub, Int.reduceMul, Int.reduceNeg, k, rw_global, hG, nullC]
  all_goals exact finK_drop ⟨by obtain ⟨vn, vi, vs⟩ := v; simp_all [limitF, Vl.nul, D.er, D.er1] <;> omega, rfl, rfl⟩
def bdOk (rows : Int) (b : Bd) : Bool := decide (0 ≤ b.nulls) && decide (b.nulls ≤ rows) && limitF b.min (decide (b.nulls = rows)) && limitF b.max (decide (b.nulls = rows)) && decide (cmpV b.min b.max ≤ 0)
def okL (rows : Int) : Option Int → List Bd → Bool
  | _, [] => true
  | p, b :: l => (match p with | none => true | some q => decide (q < b.id)) && bdOk rows b && okL rows (some b.id) l
theorem okL_nil (r : Int) (p : Option Int) : okL r p [] = true := by unfold okL; rfl
theorem okL_cons (r : Int) (p : Option Int) (b : Bd) (l : List Bd) : okL r p (b :: l) = ((match p with | none => true | some q => decide (q < b.id)) && bdOk r b && okL r (some b.id) l) := by conv => lhs; unfold okL
def formedF (u : Sm) : Bool := decide (0 ≤ u.rows) && decide (u.rows ≤ 2147483647) && decide (u.l.length ≤ 64) && okL u.rows none u.l
def prevI (l : List Bd) : Nat → Option Int
  | 0 => none
  | k + 1 => (l[k]?).map (·.id)
set_option maxHeartbeats 4000000 in
theorem formed_ok (hG : G 0 = some nullC) (u : Sm) : VN P G 36 [.agg u.cells] (.bool (formedF u)) := by
  simp only [Sm.cells]
  unfold VN
  refine VC.ofs (fun | 7 => [(0, []), (1, []), (2, []), (3, []), (4, []), (5, []), (6, []), (7, []), (8, []), (9, []), (10, []), (11, []), (12, []), (13, []), (14, [])] | 99999999 => [(0, [0, 1, 2, 3, 4, 5, 19, 21, 22, 23, 24, 33, 56])] | _ => []) [2] mixed Tryz.func36 rfl rfl rfl rfl (by decide +kernel) (by simp) ?_
  simp only [go_sem, reduceIte, Nat.reduceEqDiff, Nat.reduceAdd, Nat.reduceSub, Nat.reduceMul, Nat.reduceLT, Nat.reduceLeDiff, Nat.reducePow, Int.reduceToNat, Int.reduceLT, Int.reduceLE, Int.reduceEq, Int.reduceNe, Int.reduceAdd, Int.reduceSub, Int.reduceMul, Int.reduceNeg]
  intro b0
  have hlen : ((u.l.map Bd.d).length : Int) = u.l.length := by rw [List.length_map]
  by_cases k1 : u.rows < 0
  · simp only [go_sem, reduceIte, Nat.reduceEqDiff, Nat.reduceAdd, Nat.reduceSub, Nat.reduceMul, Nat.reduceLT, Nat.reduceLeDiff, Nat.reducePow, Int.reduceToNat, Int.reduceLT, Int.reduceLE, Int.reduceEq, Int.reduceNe, Int.reduceAdd, Int.reduceSub, Int.reduceMul, Int.reduceNeg, k1]
    exact finK_drop ⟨by rw [formedF, decide_eq_false (by omega)]; rfl, rfl, rfl⟩
  by_cases k2 : 2147483647 < u.rows
  · simp only [go_sem, reduceIte, Nat.reduceEqDiff, Nat.reduceAdd, Nat.reduceSub, Nat.reduceMul, Nat.reduceLT, Nat.reduceLeDiff, Nat.reducePow, Int.reduceToNat, Int.reduceLT, Int.reduceLE, Int.reduceEq, Int.reduceNe, Int.reduceAdd, Int.reduceSub, Int.reduceMul, Int.reduceNeg, k1, k2]
    exact finK_drop ⟨by rw [formedF, decide_eq_false (show ¬ u.rows ≤ 2147483647 by omega), Bool.and_false]; rfl, rfl, rfl⟩
  by_cases k3 : (64 : Int) < u.l.length
  · simp only [go_sem, reduceIte, Nat.reduceEqDiff, Nat.reduceAdd, Nat.reduceSub, Nat.reduceMul, Nat.reduceLT, Nat.reduceLeDiff, Nat.reducePow, Int.reduceToNat, Int.reduceLT, Int.reduceLE, Int.reduceEq, Int.reduceNe, Int.reduceAdd, Int.reduceSub, Int.reduceMul, Int.reduceNeg, k1, k2, hlen, k3]
    exact finK_drop ⟨by rw [formedF, decide_eq_false (show ¬ u.l.length ≤ 64 by omega), Bool.and_false]; rfl, rfl, rfl⟩
  simp only [go_sem, reduceIte, Nat.reduceEqDiff, Nat.reduceAdd, Nat.reduceSub, Nat.reduceMul, Nat.reduceLT, Nat.reduceLeDiff, Nat.reducePow, Int.reduceToNat, Int.reduceLT, Int.reduceLE, Int.reduceEq, Int.reduceNe, Int.reduceAdd, Int.reduceSub, Int.reduceMul, Int.reduceNeg, k1, k2, hlen, k3]
  generalize hβ : Heap.set _ b0 _ = β0
  have e0 : β0 b0 = some [.int .i64 u.rows, .sl .none (u.l.map Bd.d)] := by rw [← hβ]; simp [Heap.set]
  clear hβ
  refine vwq_loop (fun v => ∃ (j : Nat), j ≤ u.l.length ∧ okL u.rows (prevI u.l j) (u.l.drop j) = okL u.rows none u.l ∧ v.σ 1 = .pb b0 0 ∧ v.σ 21 = .sl .none (u.l.map Bd.d) ∧ v.σ 22 = .int .i64 u.l.length ∧ v.σ 23 = .int .i64 j ∧ v.β b0 = some [.int .i64 u.rows, .sl .none (u.l.map Bd.d)] ∧ v.ω = []) (fun v => u.l.length - (ival (v.σ 23)).toNat) ?_ ?_
  · exact ⟨0, by omega, rfl, rfl, rfl, rfl, rfl, e0, rfl⟩
  clear e0 β0
  rintro σ β ω ⟨j, hj, hc, q1, q21, q22, q23, e0, rfl⟩
  dsimp only at q1 q21 q22 q23 e0
  have k3' : ¬ 64 < u.l.length := by omega
  try simp only [go_sem, reduceIte, Nat.reduceEqDiff, Nat.reduceAdd, Nat.reduceSub, Nat.reduceMul, Nat.reduceLT, Nat.reduceLeDiff, Nat.reducePow, Int.reduceToNat, Int.reduceLT, Int.reduceLE, Int.reduceEq, Int.reduceNe, Int.reduceAdd, Int.reduceSub, Int.reduceMul, Int.reduceNeg, q1, q21, q22, q23, e0]
  refine cd_dec (fun g => ?_) (fun g => ?_)
  · obtain ⟨x, hx, ex⟩ := Bd_at (l := u.l) (j := j) (by rw [List.length_map]; omega)
    have wj := wrap_i64 (x := (j : Int) + 1) (by omega) (by omega)
    have hl1 := fun n => limit_ok (G := G) hG x.min n
    have hl2 := fun n => limit_ok (G := G) hG x.max n
    have hcm := Compare_ok (G := G) x.min x.max
    simp only [Vl.cells, Vl.d] at hl1 hl2 hcm
    rw [drop_at hx, okL_cons] at hc
    have c1 : ((0 : Int) ≤ j) = True := eq_true (by omega)
    have c2 : ((j : Int) < u.l.length) = True := eq_true g
    try simp only [go_sem, reduceIte, Nat.reduceEqDiff, Nat.reduceAdd, Nat.reduceSub, Nat.reduceMul, Nat.reduceLT, Nat.reduceLeDiff, Nat.reducePow, Int.reduceToNat, Int.reduceLT, Int.reduceLE, Int.reduceEq, Int.reduceNe, Int.reduceAdd, Int.reduceSub, Int.reduceMul, Int.reduceNeg, q1, q21, q22, q23, e0, ex, hlen, c1, c2]
    refine new_any fun b4 hb => ?_
    have n0 := box_ne hb e0
    clear hb
    have step : okL u.rows (prevI u.l (j + 1)) (u.l.drop (j + 1)) = okL u.rows (some x.id) (u.l.drop (j + 1)) := by
      rw [prevI, hx]; rfl
    have cb : ∀ b : Bool, (b = true) ∨ (b = false) := fun b => by cases b <;> simp
    cases j with
    | zero =>
      have c3 : ((0 : Int) < ((0 : Nat) : Int)) = False := by simp
      simp only [prevI, Bool.true_and] at hc
      repeat' (first | refine cd_dec (fun _ => ?_) (fun _ => ?_) | refine cd_b (fun _ => ?_) (fun _ => ?_) | refine cK_vn (hl1 _) ?_ | refine cK_vn (hl2 _) ?_ | refine cK_vn hcm ?_ | simp only [go_sem, reduceIte, Nat.reduceEqDiff, Nat.reduceAdd, Nat.reduceSub, Nat.reduceMul, Nat.reduceLT, Nat.reduceLeDiff, Nat.reducePow, Int.reduceToNat, Int.reduceLT, Int.reduceLE, Int.reduceEq, Int.reduceNe, Int.reduceAdd, Int.reduceSub, Int.reduceMul, Int.reduceNeg, q1, q21, q22, q23, e0, ex, n0, c1, c2, c3, wj, hlen])
      all_goals first
        | (refine finK_drop ⟨?_, rfl, rfl⟩; rw [formedF, ← hc]; clear hc hl1 hl2 hcm q1 q21 q22 q23 e0 ex hx step cb; (try simp only [Bool.not_eq_true', Bool.not_eq_false'] at *); simp only [bdOk, ← Int.not_lt, ← Nat.not_lt, er_bool, *, decide_true, decide_false, not_true_eq_false, not_false_eq_true, Bool.and_true, Bool.true_and, Bool.and_false, Bool.false_and, Bool.and_self]; done)
        | (refine ⟨⟨0 + 1, by omega, ?_, rfl⟩, by omega⟩; rw [step, ← hc]; clear hc hl1 hl2 hcm q1 q21 q22 q23 e0 ex hx step cb; (try simp only [Bool.not_eq_true', Bool.not_eq_false'] at *); simp only [bdOk, ← Int.not_lt, ← Nat.not_lt, *, decide_true, decide_false, not_true_eq_false, not_false_eq_true, Bool.and_true, Bool.true_and, Bool.and_false, Bool.false_and, Bool.and_self]; done)
        | (exfalso; omega)
        | (exfalso; clear hc hl1 hl2 hcm q1 q21 q22 q23 e0 ex hx step cb; simp_all; done)
        | (clear hl1 hl2 hcm q1 q21 q22 q23 e0 ex hx step cb; trace_state)
    | succ k =>
      obtain ⟨y, hy, ey⟩ := Bd_at (l := u.l) (j := k) (by rw [List.length_map]; omega)
      have c3 : ((0 : Int) < ((k + 1 : Nat) : Int)) = True := eq_true (by omega)
      have c4 : ((0 : Int) ≤ (k : Int)) = True := eq_true (by omega)
      have c5 : ((k : Int) < (u.l.length : Int)) = True := eq_true (by omega)
      have w1 : IntKind.i64.wrap (((k + 1 : Nat) : Int) - 1) = (k : Int) := by rw [wrap_i64 (by omega) (by omega)]; omega
      simp only [prevI, hy, Option.map_some] at hc
      obtain ⟨kk, kk2⟩ | ⟨kk, kk2⟩ : ((x.id ≤ y.id) = True ∧ (y.id < x.id) = False) ∨ ((x.id ≤ y.id) = False ∧ (y.id < x.id) = True) := by
        by_cases h : x.id ≤ y.id
        · exact .inl ⟨eq_true h, eq_false (by omega)⟩
        · exact .inr ⟨eq_false h, eq_true (by omega)⟩
      all_goals repeat' (first | refine cd_dec (fun _ => ?_) (fun _ => ?_) | refine cd_b (fun _ => ?_) (fun _ => ?_) | refine cK_vn (hl1 _) ?_ | refine cK_vn (hl2 _) ?_ | refine cK_vn hcm ?_ | simp only [go_sem, reduceIte, Nat.reduceEqDiff, Nat.reduceAdd, Nat.reduceSub, Nat.reduceMul, Nat.reduceLT, Nat.reduceLeDiff, Nat.reducePow, Int.reduceToNat, Int.reduceLT, Int.reduceLE, Int.reduceEq, Int.reduceNe, Int.reduceAdd, Int.reduceSub, Int.reduceMul, Int.reduceNeg, q1, q21, q22, q23, e0, ex, n0, c1, c2, c3, wj, hlen, ey, c4, c5, w1, kk])
      all_goals first
        | (refine finK_drop ⟨?_, rfl, rfl⟩; rw [formedF, ← hc]; clear hc hy ey hl1 hl2 hcm q1 q21 q22 q23 e0 ex hx step cb; (try simp only [Bool.not_eq_true', Bool.not_eq_false'] at *); simp only [bdOk, ← Int.not_lt, ← Nat.not_lt, er_bool, *, decide_true, decide_false, not_true_eq_false, not_false_eq_true, Bool.and_true, Bool.true_and, Bool.and_false, Bool.false_and, Bool.and_self]; done)
        | (refine ⟨⟨k + 1 + 1, by omega, ?_, rfl⟩, by omega⟩; rw [step, ← hc]; clear hc hy ey hl1 hl2 hcm q1 q21 q22 q23 e0 ex hx step cb; (try simp only [Bool.not_eq_true', Bool.not_eq_false'] at *); simp only [bdOk, ← Int.not_lt, ← Nat.not_lt, *, decide_true, decide_false, not_true_eq_false, not_false_eq_true, Bool.and_true, Bool.true_and, Bool.and_false, Bool.false_and, Bool.and_self]; done)
        | (exfalso; omega)
        | (exfalso; clear hc hy ey hl1 hl2 hcm q1 q21 q22 q23 e0 ex hx step cb; simp_all; done)
        | (clear hl1 hl2 hcm q1 q21 q22 q23 e0 ex hx step cb; trace_state)
  · try simp only [go_sem, reduceIte, Nat.reduceEqDiff, Nat.reduceAdd, Nat.reduceSub, Nat.reduceMul, Nat.reduceLT, Nat.reduceLeDiff, Nat.reducePow, Int.reduceToNat, Int.reduceLT, Int.reduceLE, Int.reduceEq, Int.reduceNe, Int.reduceAdd, Int.reduceSub, Int.reduceMul, Int.reduceNeg, q1, q21, q22, q23, e0]
    rw [List.drop_eq_nil_of_le (by omega), okL_nil] at hc
    exact finK_drop ⟨by rw [formedF, ← hc, decide_eq_true (show 0 ≤ u.rows by omega), decide_eq_true (show u.rows ≤ 2147483647 by omega), decide_eq_true (show u.l.length ≤ 64 by omega)]; rfl, rfl, rfl⟩
end Go.Proofs.YtnoenipdooackaaGreatDoorS
namespace Go.Proofs.YtnoenipdooackaaGreatDoorS
open Go Go.Proofs.YtnoenipdooackaaGreatDoorV

variable {G : Heap}

theorem zig_len {k : Int} (hk : -9223372036854775808 ≤ k ∧ k < 9223372036854775808) : (enc (zig k)).length ≤ 10 := enc_len (zig_lt hk)
attribute [local irreducible] VN VC VX VQ

abbrev I64 (k : Int) : Prop := -9223372036854775808 ≤ k ∧ k < 9223372036854775808
def Bd.I (b : Bd) : Prop := I64 b.id ∧ I64 b.nulls ∧ I64 b.min.n ∧ I64 b.max.n
def encW (v : Vl) : List Nat := enc (zig v.n) ++ (enc v.s.size ++ sb v.s)
def encB (rows : Int) (b : Bd) : List Nat := enc (zig b.id) ++ (enc b.nulls.toNat ++ if b.nulls < rows then encW b.min ++ encW b.max else [])
def encS (u : Sm) : List Nat := enc u.rows.toNat ++ (enc u.l.length ++ u.l.flatMap (encB u.rows))
def encF (u : Sm) : List Nat := if formedF u = true then encS u else []
theorem okL_mem (r : Int) : ∀ (l : List Bd) (p : Option Int), okL r p l = true → ∀ x ∈ l, bdOk r x = true
  | [], p, _, x, hx => by cases hx
  | b :: l, p, h, x, hx => by
    rw [okL_cons] at h
    simp only [Bool.and_eq_true] at h
    rcases List.mem_cons.1 hx with rfl | hx
    · exact h.1.2
    · exact okL_mem r l _ h.2 x hx
theorem sb_len (s : ByteArray) : (sb s).length = s.size := by simp [sb]
theorem bdOk_s {r : Int} {b : Bd} (h : bdOk r b = true) (hn : b.nulls < r) : b.min.s.size ≤ 200 ∧ b.max.s.size ≤ 200 ∧ 0 ≤ b.nulls := by
  simp only [bdOk, Bool.and_eq_true, decide_eq_true_eq] at h
  obtain ⟨⟨⟨⟨h1, h2⟩, h3⟩, h4⟩, h5⟩ := h
  have : ¬ b.nulls = r := by omega
  simp only [limitF, this, decide_false, Bool.false_eq_true, if_false, Bool.and_eq_true, decide_eq_true_eq] at h3 h4
  exact ⟨h3.2, h4.2, h1⟩
theorem encW_len {v : Vl} (h : I64 v.n) (hs : v.s.size ≤ 200) : (encW v).length ≤ 220 := by
  have h1 := zig_len h
  have h2 := enc_len (n := v.s.size) (by omega)
  simp only [encW, List.length_append, sb_len]; omega
theorem encB_len {r : Int} {b : Bd} (h : bdOk r b = true) (hi : b.I) : (encB r b).length ≤ 460 := by
  obtain ⟨i1, i2, i3, i4⟩ := hi
  have h1 := zig_len i1
  have h2 := enc_len (n := b.nulls.toNat) (by omega)
  unfold encB
  split
  · rename_i hn
    obtain ⟨s1, s2, s3⟩ := bdOk_s h hn
    have h3 := encW_len i3 s1
    have h4 := encW_len i4 s2
    simp only [List.length_append]; omega
  · simp only [List.length_append, List.length_nil]; omega
theorem encBs_len {r : Int} : ∀ {l : List Bd}, (∀ x ∈ l, bdOk r x = true) → (∀ x ∈ l, x.I) → (l.flatMap (encB r)).length ≤ l.length * 460
  | [], _, _ => by simp
  | b :: l, h, hi => by
    have h1 := encB_len (h b (by simp)) (hi b (by simp))
    have h2 := encBs_len (fun x hx => h x (by simp [hx])) (fun x hx => hi x (by simp [hx])) (l := l)
    simp only [List.flatMap_cons, List.length_append, List.length_cons]; omega
set_option maxHeartbeats 4000000 in
theorem Encode_ok (hG : G 0 = some nullC) (tk : Tk) (bb : List Nat) (u : Sm) (hb : bb.length ≤ 2^40) (hi : ∀ x ∈ u.l, x.I) : VN P G 10 [.sl tk (bs bb), .agg u.cells] (.sl .none (bs (bb ++ encF u))) := by
  have hfm := formed_ok (G := G) hG u
  simp only [Sm.cells] at hfm ⊢
  unfold VN
  refine VC.ofs (fun | 4 => [(0, []), (1, []), (2, []), (3, []), (5, []), (6, [4]), (7, []), (8, []), (4, []), (9, []), (10, [])] | 8 => [(0, []), (1, []), (2, []), (4, []), (5, [3]), (6, []), (3, []), (7, []), (8, [])] | 10 => [(0, []), (1, []), (2, []), (3, []), (5, []), (6, []), (7, [4]), (4, []), (8, []), (9, [])] | 11 => [(0, []), (1, []), (2, []), (3, []), (5, []), (6, []), (7, [4]), (4, []), (8, []), (9, [])] | 99999999 => [(0, [0, 1, 3, 4, 5, 7, 12, 25, 26, 27, 28, 43])] | _ => []) [4] mixed Tryz.func10 rfl rfl rfl rfl (by decide +kernel) (by simp) ?_
  simp only [go_sem, reduceIte, Nat.reduceEqDiff, Nat.reduceAdd, Nat.reduceSub, Nat.reduceMul, Nat.reduceLT, Nat.reduceLeDiff, Nat.reducePow, Int.reduceToNat, Int.reduceLT, Int.reduceLE, Int.reduceEq, Int.reduceNe, Int.reduceAdd, Int.reduceSub, Int.reduceMul, Int.reduceNeg]
  intro b0
  refine cK_vn (CloneB_ok _ bb (by omega)) ?_
  simp only [go_sem, reduceIte, Nat.reduceEqDiff, Nat.reduceAdd, Nat.reduceSub, Nat.reduceMul, Nat.reduceLT, Nat.reduceLeDiff, Nat.reducePow, Int.reduceToNat, Int.reduceLT, Int.reduceLE, Int.reduceEq, Int.reduceNe, Int.reduceAdd, Int.reduceSub, Int.reduceMul, Int.reduceNeg]
  refine cK_vn hfm ?_
  cases hf : formedF u
  · simp only [go_sem, reduceIte, Nat.reduceEqDiff, Nat.reduceAdd, Nat.reduceSub, Nat.reduceMul, Nat.reduceLT, Nat.reduceLeDiff, Nat.reducePow, Int.reduceToNat, Int.reduceLT, Int.reduceLE, Int.reduceEq, Int.reduceNe, Int.reduceAdd, Int.reduceSub, Int.reduceMul, Int.reduceNeg, hf]
    exact finK_drop ⟨by rw [encF, hf]; simp [D.er, D.er1], rfl, rfl⟩
  have hf' := hf
  simp only [formedF, Bool.and_eq_true, decide_eq_true_eq] at hf'
  obtain ⟨⟨⟨f1, f2⟩, f3⟩, f4⟩ := hf'
  have hall := okL_mem _ _ _ f4
  obtain ⟨rw_, hr⟩ : ∃ r : Nat, u.rows = r := ⟨u.rows.toNat, by omega⟩
  have w1 : IntKind.u64.wrap u.rows = ((u.rows.toNat : Nat) : Int) := by rw [wrap_u64]; omega
  have w2 : IntKind.u64.wrap ((u.l.map Bd.d).length : Int) = ((u.l.length : Nat) : Int) := by rw [wrap_u64, List.length_map]; omega
  have l1 := enc_len (n := u.rows.toNat) (by omega)
  have l2 := enc_len (n := u.l.length) (by omega)
  simp only [go_sem, reduceIte, Nat.reduceEqDiff, Nat.reduceAdd, Nat.reduceSub, Nat.reduceMul, Nat.reduceLT, Nat.reduceLeDiff, Nat.reducePow, Int.reduceToNat, Int.reduceLT, Int.reduceLE, Int.reduceEq, Int.reduceNe, Int.reduceAdd, Int.reduceSub, Int.reduceMul, Int.reduceNeg, hf, w1, w2]
  refine cE_vn (U_vn _ bb u.rows.toNat (by omega) (by omega)) ?_
  simp only [go_sem, reduceIte, Nat.reduceEqDiff, Nat.reduceAdd, Nat.reduceSub, Nat.reduceMul, Nat.reduceLT, Nat.reduceLeDiff, Nat.reducePow, Int.reduceToNat, Int.reduceLT, Int.reduceLE, Int.reduceEq, Int.reduceNe, Int.reduceAdd, Int.reduceSub, Int.reduceMul, Int.reduceNeg, w1, w2]
  refine cE_vn (U_vn _ _ u.l.length (by rw [List.length_append]; omega) (by omega)) ?_
  simp only [go_sem, reduceIte, Nat.reduceEqDiff, Nat.reduceAdd, Nat.reduceSub, Nat.reduceMul, Nat.reduceLT, Nat.reduceLeDiff, Nat.reducePow, Int.reduceToNat, Int.reduceLT, Int.reduceLE, Int.reduceEq, Int.reduceNe, Int.reduceAdd, Int.reduceSub, Int.reduceMul, Int.reduceNeg, w1, w2]
  generalize hβ : Heap.set _ b0 _ = β0
  have e0 : β0 b0 = some [.int .i64 u.rows, .sl .none (u.l.map Bd.d)] := by rw [← hβ]; simp [Heap.set]
  clear hβ
  refine vwq_loop (fun v => ∃ (j : Nat), j ≤ u.l.length ∧ v.σ 3 = .pb b0 0 ∧ v.σ 5 = .sl .none (bs (bb ++ enc u.rows.toNat ++ enc u.l.length ++ (u.l.take j).flatMap (encB u.rows))) ∧ v.σ 25 = .sl .none (u.l.map Bd.d) ∧ v.σ 26 = .int .i64 u.l.length ∧ v.σ 27 = .int .i64 j ∧ v.β b0 = some [.int .i64 u.rows, .sl .none (u.l.map Bd.d)] ∧ v.ω = []) (fun v => u.l.length - (ival (v.σ 27)).toNat) ?_ ?_
  · exact ⟨0, by omega, rfl, by simp only [List.take_zero, List.flatMap_nil, List.append_nil]; rfl, rfl, by rw [← List.length_map (f := Bd.d)]; rfl, rfl, e0, rfl⟩
  clear e0 β0
  rintro σ β ω ⟨j, hj, q3, q5, q25, q26, q27, e0, rfl⟩
  dsimp only at q3 q5 q25 q26 q27 e0
  try simp only [go_sem, reduceIte, Nat.reduceEqDiff, Nat.reduceAdd, Nat.reduceSub, Nat.reduceMul, Nat.reduceLT, Nat.reduceLeDiff, Nat.reducePow, Int.reduceToNat, Int.reduceLT, Int.reduceLE, Int.reduceEq, Int.reduceNe, Int.reduceAdd, Int.reduceSub, Int.reduceMul, Int.reduceNeg, q3, q5, q25, q26, q27, e0]
  refine cd_dec (fun g => ?_) (fun g => ?_)
  · obtain ⟨x, hx, ex⟩ := Bd_at (l := u.l) (j := j) (by rw [List.length_map]; omega)
    have hm := List.mem_of_getElem? hx
    have hbk := hall x hm
    obtain ⟨i1, i2, i3, i4⟩ := hi x hm
    have wj := wrap_i64 (x := (j : Int) + 1) (by omega) (by omega)
    have hn0 : 0 ≤ x.nulls := by
      simp only [bdOk, Bool.and_eq_true, decide_eq_true_eq] at hbk
      exact hbk.1.1.1.1
    have wn : x.nulls % 18446744073709551616 = ((x.nulls.toNat : Nat) : Int) := by omega
    have tl := encBs_len (r := u.rows) (l := u.l.take j) (fun y hy => hall y (List.mem_of_mem_take hy)) (fun y hy => hi y (List.mem_of_mem_take hy))
    rw [List.length_take] at tl
    have m1 := zig_len i1
    have m2 := enc_len (n := x.nulls.toNat) (by omega)
    have m3 := zig_len i3
    have m4 := zig_len i4
    obtain ⟨acc, hacc⟩ : ∃ acc, bb ++ enc u.rows.toNat ++ enc u.l.length ++ (u.l.take j).flatMap (encB u.rows) = acc := ⟨_, rfl⟩
    have al : acc.length ≤ 2^41 := by
      rw [← hacc]; simp only [List.length_append]; omega
    have ht : bb ++ enc u.rows.toNat ++ enc u.l.length ++ (u.l.take (j + 1)).flatMap (encB u.rows) = acc ++ encB u.rows x := by
      rw [List.take_add_one, hx, ← hacc]; simp
    rw [hacc] at q5
    try simp only [go_sem, reduceIte, Nat.reduceEqDiff, Nat.reduceAdd, Nat.reduceSub, Nat.reduceMul, Nat.reduceLT, Nat.reduceLeDiff, Nat.reducePow, Int.reduceToNat, Int.reduceLT, Int.reduceLE, Int.reduceEq, Int.reduceNe, Int.reduceAdd, Int.reduceSub, Int.reduceMul, Int.reduceNeg, q3, q5, q25, q26, q27, e0, ex, hacc]
    refine ⟨by rw [List.length_map]; omega, new_any fun b4 hb => ?_⟩
    have n0 := box_ne hb e0
    clear hb
    try simp only [go_sem, reduceIte, Nat.reduceEqDiff, Nat.reduceAdd, Nat.reduceSub, Nat.reduceMul, Nat.reduceLT, Nat.reduceLeDiff, Nat.reducePow, Int.reduceToNat, Int.reduceLT, Int.reduceLE, Int.reduceEq, Int.reduceNe, Int.reduceAdd, Int.reduceSub, Int.reduceMul, Int.reduceNeg, q3, q5, q25, q26, q27, e0, ex, n0]
    refine cE_vn (S_vn _ acc x.id i1 (by omega) (by omega)) ?_
    try simp only [go_sem, reduceIte, Nat.reduceEqDiff, Nat.reduceAdd, Nat.reduceSub, Nat.reduceMul, Nat.reduceLT, Nat.reduceLeDiff, Nat.reducePow, Int.reduceToNat, Int.reduceLT, Int.reduceLE, Int.reduceEq, Int.reduceNe, Int.reduceAdd, Int.reduceSub, Int.reduceMul, Int.reduceNeg, q3, q5, q25, q26, q27, e0, ex, n0, wn]
    refine cE_vn (U_vn _ (acc ++ enc (zig x.id)) x.nulls.toNat (by rw [List.length_append]; omega) (by omega)) ?_
    try simp only [go_sem, reduceIte, Nat.reduceEqDiff, Nat.reduceAdd, Nat.reduceSub, Nat.reduceMul, Nat.reduceLT, Nat.reduceLeDiff, Nat.reducePow, Int.reduceToNat, Int.reduceLT, Int.reduceLE, Int.reduceEq, Int.reduceNe, Int.reduceAdd, Int.reduceSub, Int.reduceMul, Int.reduceNeg, q3, q5, q25, q26, q27, e0, ex, n0, wn]
    refine cd_dec (fun k => ?_) (fun k => ?_)
    · obtain ⟨s1, s2, s3⟩ := bdOk_s hbk k
      have m5 := enc_len (n := x.min.s.size) (by omega)
      have m6 := enc_len (n := x.max.s.size) (by omega)
      try simp only [go_sem, reduceIte, Nat.reduceEqDiff, Nat.reduceAdd, Nat.reduceSub, Nat.reduceMul, Nat.reduceLT, Nat.reduceLeDiff, Nat.reducePow, Int.reduceToNat, Int.reduceLT, Int.reduceLE, Int.reduceEq, Int.reduceNe, Int.reduceAdd, Int.reduceSub, Int.reduceMul, Int.reduceNeg, q3, q5, q25, q26, q27, e0, ex, n0]
      refine cE_vn (S_vn _ (acc ++ enc (zig x.id) ++ enc x.nulls.toNat) x.min.n i3 (by simp only [List.length_append]; omega) (by omega)) ?_
      try simp only [go_sem, reduceIte, Nat.reduceEqDiff, Nat.reduceAdd, Nat.reduceSub, Nat.reduceMul, Nat.reduceLT, Nat.reduceLeDiff, Nat.reducePow, Int.reduceToNat, Int.reduceLT, Int.reduceLE, Int.reduceEq, Int.reduceNe, Int.reduceAdd, Int.reduceSub, Int.reduceMul, Int.reduceNeg, q3, q5, q25, q26, q27, e0, ex, n0]
      refine cE_vn (Text_vn _ ((acc ++ enc (zig x.id) ++ enc x.nulls.toNat) ++ enc (zig x.min.n)) x.min.s (by simp only [List.length_append]; omega) (by omega)) ?_
      try simp only [go_sem, reduceIte, Nat.reduceEqDiff, Nat.reduceAdd, Nat.reduceSub, Nat.reduceMul, Nat.reduceLT, Nat.reduceLeDiff, Nat.reducePow, Int.reduceToNat, Int.reduceLT, Int.reduceLE, Int.reduceEq, Int.reduceNe, Int.reduceAdd, Int.reduceSub, Int.reduceMul, Int.reduceNeg, q3, q5, q25, q26, q27, e0, ex, n0]
      refine cE_vn (S_vn _ (((acc ++ enc (zig x.id) ++ enc x.nulls.toNat) ++ enc (zig x.min.n)) ++ enc x.min.s.size ++ sb x.min.s) x.max.n i4 (by simp only [List.length_append, sb_len]; omega) (by omega)) ?_
      try simp only [go_sem, reduceIte, Nat.reduceEqDiff, Nat.reduceAdd, Nat.reduceSub, Nat.reduceMul, Nat.reduceLT, Nat.reduceLeDiff, Nat.reducePow, Int.reduceToNat, Int.reduceLT, Int.reduceLE, Int.reduceEq, Int.reduceNe, Int.reduceAdd, Int.reduceSub, Int.reduceMul, Int.reduceNeg, q3, q5, q25, q26, q27, e0, ex, n0]
      refine cE_vn (Text_vn _ ((((acc ++ enc (zig x.id) ++ enc x.nulls.toNat) ++ enc (zig x.min.n)) ++ enc x.min.s.size ++ sb x.min.s) ++ enc (zig x.max.n)) x.max.s (by simp only [List.length_append, sb_len]; omega) (by omega)) ?_
      try simp only [go_sem, reduceIte, Nat.reduceEqDiff, Nat.reduceAdd, Nat.reduceSub, Nat.reduceMul, Nat.reduceLT, Nat.reduceLeDiff, Nat.reducePow, Int.reduceToNat, Int.reduceLT, Int.reduceLE, Int.reduceEq, Int.reduceNe, Int.reduceAdd, Int.reduceSub, Int.reduceMul, Int.reduceNeg, q3, q5, q25, q26, q27, e0, ex, n0, wj]
      refine ⟨⟨j + 1, by omega, ?_⟩, by omega⟩
      rw [ht]
      simp [Heap.set, n0, e0, encB, k, encW]
    · try simp only [go_sem, reduceIte, Nat.reduceEqDiff, Nat.reduceAdd, Nat.reduceSub, Nat.reduceMul, Nat.reduceLT, Nat.reduceLeDiff, Nat.reducePow, Int.reduceToNat, Int.reduceLT, Int.reduceLE, Int.reduceEq, Int.reduceNe, Int.reduceAdd, Int.reduceSub, Int.reduceMul, Int.reduceNeg, q3, q5, q25, q26, q27, e0, ex, n0, wj]
      refine ⟨⟨j + 1, by omega, ?_⟩, by omega⟩
      rw [ht]
      simp [Heap.set, n0, e0, encB, k]
  · try simp only [go_sem, reduceIte, Nat.reduceEqDiff, Nat.reduceAdd, Nat.reduceSub, Nat.reduceMul, Nat.reduceLT, Nat.reduceLeDiff, Nat.reducePow, Int.reduceToNat, Int.reduceLT, Int.reduceLE, Int.reduceEq, Int.reduceNe, Int.reduceAdd, Int.reduceSub, Int.reduceMul, Int.reduceNeg, q3, q5, q25, q26, q27, e0]
    rw [List.take_of_length_le (by omega)]
    exact finK_drop ⟨by rw [encF, hf]; simp [D.er, D.er1, encS], rfl, rfl⟩
end Go.Proofs.YtnoenipdooackaaGreatDoorS
namespace Go.Proofs.YtnoenipdooackaaGreatDoorS
open Go Go.Proofs.YtnoenipdooackaaGreatDoorV

variable {G : Heap}
attribute [local irreducible] VN VC VX VQ

/-- The state of a source: where it stands, and its error. -/
abbrev Sc := Int × Int
def scC (tk : Tk) (b : List Nat) (s : Sc) : List D := [.sl tk (bs b), .int .i64 s.1, .int .i64 s.2]
def nxU (b : List Nat) (s : Sc) : Int × Sc := if s.2 = 0 then ((readU b s.1).1, ((readU b s.1).2.1, (readU b s.1).2.2)) else (0, s)
def nxS (b : List Nat) (s : Sc) : Int × Sc := if s.2 = 0 then (unzig (readU b s.1).1, ((readU b s.1).2.1, (readU b s.1).2.2)) else (0, s)
def nxT (b : List Nat) (s : Sc) : ByteArray × Sc := if s.2 = 0 then (strN ((b.drop (spanF b s.1).1).take ((spanF b s.1).2.1 - (spanF b s.1).1)), ((spanF b s.1).2.1, (spanF b s.1).2.2)) else (ByteArray.empty, s)
def failS (s : Sc) (e : Int) (w : Bool) : Sc := if s.2 = 0 ∧ w = true then (s.1, e) else s

theorem nextU_ok (tk : Tk) (b : List Nat) (s : Sc) (hb : Byt b) : VP P G 31 (fun p => [.pb p 0, .clo (.func 32) [] []]) (scC tk b s) (.int .u64 (nxU b s).1) (scC tk b (nxU b s).2) := by
  have hr := ReadU_ok (G := G) tk b s.1 hb
  simp only [scC, tri] at hr ⊢
  intro p
  refine VC.ofs (fun | 4 => [(0, []), (1, []), (2, []), (3, []), (4, []), (5, []), (6, []), (7, []), (8, []), (9, []), (10, []), (11, []), (12, []), (13, []), (14, []), (15, []), (16, [])] | 99999999 => [(0, [0, 1, 4, 5, 6, 7, 8, 13])] | _ => []) [4] mixed Tryz.func31 rfl rfl rfl rfl (by decide +kernel) (by simp) ?_
  by_cases k : s.2 = 0
  · simp only [go_sem, reduceIte, Nat.reduceEqDiff, Nat.reduceAdd, Nat.reduceSub, Nat.reduceMul, Nat.reduceLT, Nat.reduceLeDiff, Nat.reducePow, Int.reduceToNat, Int.reduceLT, Int.reduceLE, Int.reduceEq, Int.reduceNe, Int.reduceAdd, Int.reduceSub, Int.reduceMul, Int.reduceNeg, k]
    refine cE_vn hr ?_
    simp only [go_sem, reduceIte, Nat.reduceEqDiff, Nat.reduceAdd, Nat.reduceSub, Nat.reduceMul, Nat.reduceLT, Nat.reduceLeDiff, Nat.reducePow, Int.reduceToNat, Int.reduceLT, Int.reduceLE, Int.reduceEq, Int.reduceNe, Int.reduceAdd, Int.reduceSub, Int.reduceMul, Int.reduceNeg, k]
    refine finK_var (b := p) (x := scC tk b (nxU b s).2) (by simp [Heap.set, nxU, k, scC]) ⟨?_, rfl, rfl⟩
    simp [nxU, k, D.er, D.er1]
  · simp only [go_sem, reduceIte, Nat.reduceEqDiff, Nat.reduceAdd, Nat.reduceSub, Nat.reduceMul, Nat.reduceLT, Nat.reduceLeDiff, Nat.reducePow, Int.reduceToNat, Int.reduceLT, Int.reduceLE, Int.reduceEq, Int.reduceNe, Int.reduceAdd, Int.reduceSub, Int.reduceMul, Int.reduceNeg, k, ne_eq]
    refine finK_var (b := p) (x := scC tk b (nxU b s).2) (by simp [Heap.set, nxU, k, scC]) ⟨?_, rfl, rfl⟩
    simp [nxU, k, D.er, D.er1]
theorem nextS_ok (tk : Tk) (b : List Nat) (s : Sc) (hb : Byt b) : VP P G 53 (fun p => [.pb p 0, .clo (.func 54) [] []]) (scC tk b s) (.int .i64 (nxS b s).1) (scC tk b (nxS b s).2) := by
  have hr := ReadS_ok (G := G) tk b s.1 hb
  simp only [scC, triS] at hr ⊢
  intro p
  refine VC.ofs (fun | 4 => [(0, []), (1, []), (2, []), (3, []), (4, []), (5, []), (6, []), (7, []), (8, []), (9, []), (10, []), (11, []), (12, []), (13, []), (14, []), (15, []), (16, [])] | 99999999 => [(0, [0, 1, 4, 5, 6, 7, 8, 13])] | _ => []) [4] mixed Tryz.func53 rfl rfl rfl rfl (by decide +kernel) (by simp) ?_
  by_cases k : s.2 = 0
  · simp only [go_sem, reduceIte, Nat.reduceEqDiff, Nat.reduceAdd, Nat.reduceSub, Nat.reduceMul, Nat.reduceLT, Nat.reduceLeDiff, Nat.reducePow, Int.reduceToNat, Int.reduceLT, Int.reduceLE, Int.reduceEq, Int.reduceNe, Int.reduceAdd, Int.reduceSub, Int.reduceMul, Int.reduceNeg, k]
    refine cE_vn hr ?_
    simp only [go_sem, reduceIte, Nat.reduceEqDiff, Nat.reduceAdd, Nat.reduceSub, Nat.reduceMul, Nat.reduceLT, Nat.reduceLeDiff, Nat.reducePow, Int.reduceToNat, Int.reduceLT, Int.reduceLE, Int.reduceEq, Int.reduceNe, Int.reduceAdd, Int.reduceSub, Int.reduceMul, Int.reduceNeg, k]
    refine finK_var (b := p) (x := scC tk b (nxS b s).2) (by simp [Heap.set, nxS, k, scC]) ⟨?_, rfl, rfl⟩
    simp [nxS, k, D.er, D.er1]
  · simp only [go_sem, reduceIte, Nat.reduceEqDiff, Nat.reduceAdd, Nat.reduceSub, Nat.reduceMul, Nat.reduceLT, Nat.reduceLeDiff, Nat.reducePow, Int.reduceToNat, Int.reduceLT, Int.reduceLE, Int.reduceEq, Int.reduceNe, Int.reduceAdd, Int.reduceSub, Int.reduceMul, Int.reduceNeg, k, ne_eq]
    refine finK_var (b := p) (x := scC tk b (nxS b s).2) (by simp [Heap.set, nxS, k, scC]) ⟨?_, rfl, rfl⟩
    simp [nxS, k, D.er, D.er1]
theorem nextT_ok (tk : Tk) (b : List Nat) (s : Sc) (hb : Byt b) : VP P G 78 (fun p => [.pb p 0, .clo (.func 79) [] []]) (scC tk b s) (.str (nxT b s).1) (scC tk b (nxT b s).2) := by
  have hr := ReadText_ok (G := G) tk b s.1 hb
  simp only [scC, triT] at hr ⊢
  intro p
  refine VC.ofs (fun | 4 => [(0, []), (1, []), (2, []), (3, []), (4, []), (5, []), (6, []), (7, []), (8, []), (9, []), (10, []), (11, []), (12, []), (13, []), (14, []), (15, []), (16, [])] | 99999999 => [(0, [0, 1, 4, 5, 6, 7, 8, 13])] | _ => []) [4] mixed Tryz.func78 rfl rfl rfl rfl (by decide +kernel) (by simp) ?_
  by_cases k : s.2 = 0
  · simp only [go_sem, reduceIte, Nat.reduceEqDiff, Nat.reduceAdd, Nat.reduceSub, Nat.reduceMul, Nat.reduceLT, Nat.reduceLeDiff, Nat.reducePow, Int.reduceToNat, Int.reduceLT, Int.reduceLE, Int.reduceEq, Int.reduceNe, Int.reduceAdd, Int.reduceSub, Int.reduceMul, Int.reduceNeg, k]
    refine cE_vn hr ?_
    simp only [go_sem, reduceIte, Nat.reduceEqDiff, Nat.reduceAdd, Nat.reduceSub, Nat.reduceMul, Nat.reduceLT, Nat.reduceLeDiff, Nat.reducePow, Int.reduceToNat, Int.reduceLT, Int.reduceLE, Int.reduceEq, Int.reduceNe, Int.reduceAdd, Int.reduceSub, Int.reduceMul, Int.reduceNeg, k]
    refine finK_var (b := p) (x := scC tk b (nxT b s).2) (by simp [Heap.set, nxT, k, scC]) ⟨?_, rfl, rfl⟩
    simp [nxT, k, D.er, D.er1]
  · simp only [go_sem, reduceIte, Nat.reduceEqDiff, Nat.reduceAdd, Nat.reduceSub, Nat.reduceMul, Nat.reduceLT, Nat.reduceLeDiff, Nat.reducePow, Int.reduceToNat, Int.reduceLT, Int.reduceLE, Int.reduceEq, Int.reduceNe, Int.reduceAdd, Int.reduceSub, Int.reduceMul, Int.reduceNeg, k, ne_eq]
    refine finK_var (b := p) (x := scC tk b (nxT b s).2) (by simp [Heap.set, nxT, k, scC]) ⟨?_, rfl, rfl⟩
    simp [nxT, k, D.er, D.er1]; rfl
theorem fail_ok (tk : Tk) (b : List Nat) (s : Sc) (e : Int) (w : Bool) : VP P G 33 (fun p => [.pb p 0, .int .i64 e, .bool w]) (scC tk b s) (.tup []) (scC tk b (failS s e w)) := by
  simp only [scC]
  intro p
  refine VC.ofs (fun | 99999999 => [(0, [0, 1, 2, 13])] | _ => []) [] mixed Tryz.func33 rfl rfl rfl rfl (by decide +kernel) (by simp) ?_
  by_cases k : s.2 = 0
  all_goals cases w
  all_goals simp only [go_sem, reduceIte, Nat.reduceEqDiff, Nat.reduceAdd, Nat.reduceSub, Nat.reduceMul, Nat.reduceLT, Nat.reduceLeDiff, Nat.reducePow, Int.reduceToNat, Int.reduceLT, Int.reduceLE, Int.reduceEq, Int.reduceNe, Int.reduceAdd, Int.reduceSub, Int.reduceMul, Int.reduceNeg, k]
  all_goals refine finK_var (b := p) (x := scC tk b (failS s e _)) (by simp [Heap.set, failS, k, scC]) ⟨?_, rfl, rfl⟩
  all_goals rfl

def bndF (b : List Nat) (s : Sc) : Vl × Sc :=
  let n := nxS b s
  let t := nxT b n.2
  (⟨false, n.1, t.1⟩, failS t.2 2 (decide (200 < (t.1.size : Int))))
theorem Fini.var (b : Nat) (x : List D) : Fini (Heap.nil.set b x) := ⟨b + 1, fun b' h => by
  unfold Heap.set; rw [if_neg (by omega)]; rfl⟩
theorem cE_vp {P : Program} {G : Heap} {f : FuncId} {args : Nat → List D} {x y : List D} {d : D} {b : Nat} {β : Heap} {ω : List Nat} {U : List Nat} {i : Nat} {rd : Rd} {ops : Array Oper} {es : List Ent} {Q : VE → St → Prop} {dst : Option Tmp} {σ : Sg}
    (h : VP P G f args x d y) (hb : β b = some x) (hr : ∀ b', rd i b' → b' ≠ b) (hk : Kd P G ops es Q dst σ d rd (β.set b y) ω) : cE P G U i (.clo (.func f) [] []) True (args b) rd β ω ops es Q dst σ :=
  callE_vc (h b) (Part.var hb) (fun b' hb' => by unfold Heap.set; rw [if_neg (hr b' hb')]; rfl)
    (fun _ N => ⟨d, Heap.nil.set b y, [], ⟨rfl, rfl, rfl⟩, Fini.var b y, fun b' h1 h2 => by
      unfold Heap.set at h1 h2
      by_cases e : b' = b
      · rw [if_pos e] at h2; cases h2
      · rw [if_neg e] at h1; exact absurd rfl h1, fun t ht => by simp at ht⟩)
    (fun d' β' ω' ⟨β1, ω1, ⟨h1, h2, h3⟩, _, _, h4, h5⟩ => by
      cases h1; subst h2 h3 h4 h5
      rw [joinH_box hb]
      simpa using hk)
    (fun d' β' ω' ⟨β1, ω1, ⟨h1, h2, h3⟩, _, _, h4, h5⟩ => by cases h1)
theorem bound_ok (tk : Tk) (b : List Nat) (s : Sc) (hb : Byt b) : VP P G 55 (fun p => [.pb p 0]) (scC tk b s) (.agg (bndF b s).1.cells) (scC tk b (bndF b s).2) := by
  intro p
  have h1 := nextS_ok (G := G) tk b s hb
  have h2 := nextT_ok (G := G) tk b (nxS b s).2 hb
  have h3 := fail_ok (G := G) tk b (nxT b (nxS b s).2).2 2 (decide (200 < ((nxT b (nxS b s).2).1.size : Int)))
  refine VC.ofc (fun | 99999999 => [(0, [0, 2, 3])] | _ => []) [.cell 2 60] mixed Tryz.func55 rfl rfl rfl rfl (by decide +kernel) (by simp) ?_
  simp only [go_sem, reduceIte, Nat.reduceEqDiff, Nat.reduceAdd, Nat.reduceSub, Nat.reduceMul, Nat.reduceLT, Nat.reduceLeDiff, Nat.reducePow, Int.reduceToNat, Int.reduceLT, Int.reduceLE, Int.reduceEq, Int.reduceNe, Int.reduceAdd, Int.reduceSub, Int.reduceMul, Int.reduceNeg]
  refine new_1 fun b0 q1 q2 => ?_
  try simp only [go_sem, reduceIte, Nat.reduceEqDiff, Nat.reduceAdd, Nat.reduceSub, Nat.reduceMul, Nat.reduceLT, Nat.reduceLeDiff, Nat.reducePow, Int.reduceToNat, Int.reduceLT, Int.reduceLE, Int.reduceEq, Int.reduceNe, Int.reduceAdd, Int.reduceSub, Int.reduceMul, Int.reduceNeg, q1, q2]
  refine cK_vp h1 (by simp [Heap.set, q1, q2]) ?_
  try simp only [go_sem, reduceIte, Nat.reduceEqDiff, Nat.reduceAdd, Nat.reduceSub, Nat.reduceMul, Nat.reduceLT, Nat.reduceLeDiff, Nat.reducePow, Int.reduceToNat, Int.reduceLT, Int.reduceLE, Int.reduceEq, Int.reduceNe, Int.reduceAdd, Int.reduceSub, Int.reduceMul, Int.reduceNeg, q1, q2]
  refine new_any fun b1 hb1 => ?_
  simp only [set_none] at hb1
  try simp only [go_sem, reduceIte, Nat.reduceEqDiff, Nat.reduceAdd, Nat.reduceSub, Nat.reduceMul, Nat.reduceLT, Nat.reduceLeDiff, Nat.reducePow, Int.reduceToNat, Int.reduceLT, Int.reduceLE, Int.reduceEq, Int.reduceNe, Int.reduceAdd, Int.reduceSub, Int.reduceMul, Int.reduceNeg, q1, q2, hb1]
  refine cK_vp h2 (by simp [Heap.set, q1, q2, hb1]) ?_
  try simp only [go_sem, reduceIte, Nat.reduceEqDiff, Nat.reduceAdd, Nat.reduceSub, Nat.reduceMul, Nat.reduceLT, Nat.reduceLeDiff, Nat.reducePow, Int.reduceToNat, Int.reduceLT, Int.reduceLE, Int.reduceEq, Int.reduceNe, Int.reduceAdd, Int.reduceSub, Int.reduceMul, Int.reduceNeg, q1, q2, hb1]
  refine cK_vp h3 (by simp [Heap.set, q1, q2, hb1]) ?_
  try simp only [go_sem, reduceIte, Nat.reduceEqDiff, Nat.reduceAdd, Nat.reduceSub, Nat.reduceMul, Nat.reduceLT, Nat.reduceLeDiff, Nat.reducePow, Int.reduceToNat, Int.reduceLT, Int.reduceLE, Int.reduceEq, Int.reduceNe, Int.reduceAdd, Int.reduceSub, Int.reduceMul, Int.reduceNeg, q1, q2, hb1]
  exact finK_var (b := p) (x := scC tk b (bndF b s).2) (by simp [Heap.set, q1, q2, hb1, bndF]) ⟨rfl, rfl, rfl⟩
def bdsF (b : List Nat) (rows : Int) (last : Option Int) (s : Sc) : Bd × Sc :=
  let n0 := nxS b s
  let s1 := failS n0.2 5 (match last with | some q => decide (n0.1 ≤ q) | none => false)
  let n1 := nxU b s1
  let s2 := failS n1.2 5 (decide (rows < n1.1))
  if s2.2 = 0 ∧ IntKind.i64.wrap n1.1 < rows then
    let mn := bndF b s2
    let mx := bndF b mn.2
    (⟨n0.1, IntKind.i64.wrap n1.1, mn.1, mx.1⟩, failS mx.2 5 (decide (0 < cmpV mn.1 mx.1)))
  else (⟨n0.1, IntKind.i64.wrap n1.1, Vl.nul, Vl.nul⟩, s2)
set_option maxHeartbeats 4000000 in
theorem bounds_ok (hG : G 0 = some nullC) (tk tu : Tk) (b : List Nat) (s : Sc) (hb : Byt b) (rows : Int) (l : List Bd) (hr : 0 ≤ rows ∧ rows ≤ 2147483647) (hl : l.length ≤ 64) :
    VP P G 34 (fun p => [.pb p 0, .agg [.int .i64 rows, .sl tu (l.map Bd.d)]]) (scC tk b s) (.agg (bdsF b rows (l.getLast?.map (·.id)) s).1.cells) (scC tk b (bdsF b rows (l.getLast?.map (·.id)) s).2) := by
  obtain ⟨n0, hn0⟩ : ∃ n, nxS b s = n := ⟨_, rfl⟩
  obtain ⟨s1, hs1⟩ : ∃ s1, failS n0.2 5 (match l.getLast?.map (·.id) with | some q => decide (n0.1 ≤ q) | none => false) = s1 := ⟨_, rfl⟩
  obtain ⟨n1, hn1⟩ : ∃ n, nxU b s1 = n := ⟨_, rfl⟩
  obtain ⟨s2, hs2⟩ : ∃ s2, failS n1.2 5 (decide (rows < n1.1)) = s2 := ⟨_, rfl⟩
  obtain ⟨mn, hmn⟩ : ∃ mn, bndF b s2 = mn := ⟨_, rfl⟩
  obtain ⟨mx, hmx⟩ : ∃ mx, bndF b mn.2 = mx := ⟨_, rfl⟩
  have hF : bdsF b rows (l.getLast?.map (·.id)) s = if s2.2 = 0 ∧ IntKind.i64.wrap n1.1 < rows then (⟨n0.1, IntKind.i64.wrap n1.1, mn.1, mx.1⟩, failS mx.2 5 (decide (0 < cmpV mn.1 mx.1))) else (⟨n0.1, IntKind.i64.wrap n1.1, Vl.nul, Vl.nul⟩, s2) := by
    subst hn0 hs1 hn1 hs2 hmn hmx; rfl
  have h1 := nextS_ok (G := G) tk b s hb
  rw [hn0] at h1
  have h2 := fail_ok (G := G) tk b n0.2 5 (match l.getLast?.map (·.id) with | some q => decide (n0.1 ≤ q) | none => false)
  rw [hs1] at h2
  have h3 := nextU_ok (G := G) tk b s1 hb
  rw [hn1] at h3
  have h4 := fail_ok (G := G) tk b n1.2 5 (decide (rows < n1.1))
  rw [hs2] at h4
  have h5 := bound_ok (G := G) tk b s2 hb
  rw [hmn] at h5
  have h6 := bound_ok (G := G) tk b mn.2 hb
  rw [hmx] at h6
  have h7 := Compare_ok (G := G) mn.1 mx.1
  have h8 := fail_ok (G := G) tk b mx.2 5 (decide (0 < cmpV mn.1 mx.1))
  simp only [Vl.d, Vl.cells] at h5 h6 h7
  have wr : rows % 18446744073709551616 = rows := by omega
  rw [hF]
  intro p
  refine VC.ofc (fun | 1 => [(0, []), (2, [1]), (3, [1]), (1, [5]), (4, []), (5, []), (6, [])] | 2 => [(0, []), (1, []), (2, []), (3, []), (4, []), (5, []), (6, []), (7, []), (8, []), (9, []), (10, []), (11, []), (12, []), (13, []), (14, []), (15, []), (16, []), (17, []), (18, []), (19, [])] | 99999999 => [(0, [0, 1, 3, 4, 5, 6, 55])] | _ => []) [.cell 4 62] mixed Tryz.func34 rfl rfl rfl rfl (by decide +kernel) (by simp) ?_
  simp only [go_sem, reduceIte, Nat.reduceEqDiff, Nat.reduceAdd, Nat.reduceSub, Nat.reduceMul, Nat.reduceLT, Nat.reduceLeDiff, Nat.reducePow, Int.reduceToNat, Int.reduceLT, Int.reduceLE, Int.reduceEq, Int.reduceNe, Int.reduceAdd, Int.reduceSub, Int.reduceMul, Int.reduceNeg]
  refine new_1 fun b0 q1 q2 => ?_
  refine new_2 fun b1 q3 q4 q5 => ?_
  try simp only [go_sem, reduceIte, Nat.reduceEqDiff, Nat.reduceAdd, Nat.reduceSub, Nat.reduceMul, Nat.reduceLT, Nat.reduceLeDiff, Nat.reducePow, Int.reduceToNat, Int.reduceLT, Int.reduceLE, Int.reduceEq, Int.reduceNe, Int.reduceAdd, Int.reduceSub, Int.reduceMul, Int.reduceNeg, q1, q2, q3, q4, q5, rw_global, hG, nullC]
  refine cE_vp h1 (by simp [Heap.set, q1, q2, q3, q4, q5]) (by simp [rdAdd, q1, q2, q3, q4, q5]) ?_
  try simp only [go_sem, reduceIte, Nat.reduceEqDiff, Nat.reduceAdd, Nat.reduceSub, Nat.reduceMul, Nat.reduceLT, Nat.reduceLeDiff, Nat.reducePow, Int.reduceToNat, Int.reduceLT, Int.reduceLE, Int.reduceEq, Int.reduceNe, Int.reduceAdd, Int.reduceSub, Int.reduceMul, Int.reduceNeg, q1, q2, q3, q4, q5, rw_global, hG, nullC]
  refine new_any fun b2 hb2 => ?_
  simp only [set_none] at hb2
  try simp only [go_sem, reduceIte, Nat.reduceEqDiff, Nat.reduceAdd, Nat.reduceSub, Nat.reduceMul, Nat.reduceLT, Nat.reduceLeDiff, Nat.reducePow, Int.reduceToNat, Int.reduceLT, Int.reduceLE, Int.reduceEq, Int.reduceNe, Int.reduceAdd, Int.reduceSub, Int.reduceMul, Int.reduceNeg, q1, q2, q3, q4, q5, hb2]
  have hlen : ((l.map Bd.d).length : Int) = l.length := by rw [List.length_map]
  rcases Nat.eq_zero_or_pos l.length with hz | hz
  case' inl =>
    obtain rfl := List.eq_nil_of_length_eq_zero hz
    simp only [List.getLast?_nil, Option.map_none] at h2
    try simp only [go_sem, reduceIte, Nat.reduceEqDiff, Nat.reduceAdd, Nat.reduceSub, Nat.reduceMul, Nat.reduceLT, Nat.reduceLeDiff, Nat.reducePow, Int.reduceToNat, Int.reduceLT, Int.reduceLE, Int.reduceEq, Int.reduceNe, Int.reduceAdd, Int.reduceSub, Int.reduceMul, Int.reduceNeg, List.map_nil, List.length_nil, q1, q2, q3, q4, q5, hb2, rdAdd, false_or]
    refine cE_vp h2 (by simp [Heap.set, q1, q2, q3, q4, q5, hb2]) (by simp [rdAdd, q1, q2, q3, q4, q5, hb2]) ?_
  case' inr =>
    obtain ⟨k, hk⟩ : ∃ k, l.length = k + 1 := ⟨l.length - 1, by omega⟩
    obtain ⟨y, hy, ey⟩ := Bd_at (l := l) (j := k) (by rw [List.length_map]; omega)
    have hg : l.getLast? = some y := by rw [List.getLast?_eq_getElem?, hk]; exact hy
    simp only [hg, Option.map_some] at h2
    have hlen' : ((l.map Bd.d).length : Int) = ((k + 1 : Nat) : Int) := by rw [hlen, hk]
    have c3 : ((0 : Int) < ((k + 1 : Nat) : Int)) = True := eq_true (by omega)
    have c4 : ((0 : Int) ≤ (k : Int)) = True := eq_true (by omega)
    have c5 : ((k : Int) < ((k + 1 : Nat) : Int)) = True := eq_true (by omega)
    have w1 : IntKind.i64.wrap (((k + 1 : Nat) : Int) - 1) = (k : Int) := by rw [wrap_i64 (by omega) (by omega)]; omega
    try simp only [go_sem, reduceIte, Nat.reduceEqDiff, Nat.reduceAdd, Nat.reduceSub, Nat.reduceMul, Nat.reduceLT, Nat.reduceLeDiff, Nat.reducePow, Int.reduceToNat, Int.reduceLT, Int.reduceLE, Int.reduceEq, Int.reduceNe, Int.reduceAdd, Int.reduceSub, Int.reduceMul, Int.reduceNeg, q1, q2, q3, q4, q5, hb2, rdAdd, false_or, hlen', c3, c4, c5, w1, ey]
    refine cE_vp h2 (by simp [Heap.set, q1, q2, q3, q4, q5, hb2]) (by simp [rdAdd, q1, q2, q3, q4, q5, hb2]) ?_
  all_goals
    try simp only [go_sem, reduceIte, Nat.reduceEqDiff, Nat.reduceAdd, Nat.reduceSub, Nat.reduceMul, Nat.reduceLT, Nat.reduceLeDiff, Nat.reducePow, Int.reduceToNat, Int.reduceLT, Int.reduceLE, Int.reduceEq, Int.reduceNe, Int.reduceAdd, Int.reduceSub, Int.reduceMul, Int.reduceNeg, q1, q2, q3, q4, q5, hb2]
    refine cK_vp h3 (by simp [Heap.set, q1, q2, q3, q4, q5, hb2]) ?_
    try simp only [go_sem, reduceIte, Nat.reduceEqDiff, Nat.reduceAdd, Nat.reduceSub, Nat.reduceMul, Nat.reduceLT, Nat.reduceLeDiff, Nat.reducePow, Int.reduceToNat, Int.reduceLT, Int.reduceLE, Int.reduceEq, Int.reduceNe, Int.reduceAdd, Int.reduceSub, Int.reduceMul, Int.reduceNeg, q1, q2, q3, q4, q5, hb2, wr]
    refine cK_vp h4 (by simp [Heap.set, q1, q2, q3, q4, q5, hb2]) ?_
    by_cases k1 : s2.2 = 0
  all_goals by_cases k2 : IntKind.i64.wrap n1.1 < rows
  all_goals try simp only [go_sem, reduceIte, Nat.reduceEqDiff, Nat.reduceAdd, Nat.reduceSub, Nat.reduceMul, Nat.reduceLT, Nat.reduceLeDiff, Nat.reducePow, Int.reduceToNat, Int.reduceLT, Int.reduceLE, Int.reduceEq, Int.reduceNe, Int.reduceAdd, Int.reduceSub, Int.reduceMul, Int.reduceNeg, q1, q2, q3, q4, q5, hb2, scC, k1, k2]
  all_goals try (
    refine cK_vp h5 (by simp [Heap.set, q1, q2, q3, q4, q5, hb2, scC, k1]) ?_
    try simp only [go_sem, reduceIte, Nat.reduceEqDiff, Nat.reduceAdd, Nat.reduceSub, Nat.reduceMul, Nat.reduceLT, Nat.reduceLeDiff, Nat.reducePow, Int.reduceToNat, Int.reduceLT, Int.reduceLE, Int.reduceEq, Int.reduceNe, Int.reduceAdd, Int.reduceSub, Int.reduceMul, Int.reduceNeg, q1, q2, q3, q4, q5, hb2, scC]
    refine cK_vp h6 (by simp [Heap.set, q1, q2, q3, q4, q5, hb2, scC]) ?_
    try simp only [go_sem, reduceIte, Nat.reduceEqDiff, Nat.reduceAdd, Nat.reduceSub, Nat.reduceMul, Nat.reduceLT, Nat.reduceLeDiff, Nat.reducePow, Int.reduceToNat, Int.reduceLT, Int.reduceLE, Int.reduceEq, Int.reduceNe, Int.reduceAdd, Int.reduceSub, Int.reduceMul, Int.reduceNeg, q1, q2, q3, q4, q5, hb2, scC]
    refine cK_vn h7 ?_
    try simp only [go_sem, reduceIte, Nat.reduceEqDiff, Nat.reduceAdd, Nat.reduceSub, Nat.reduceMul, Nat.reduceLT, Nat.reduceLeDiff, Nat.reducePow, Int.reduceToNat, Int.reduceLT, Int.reduceLE, Int.reduceEq, Int.reduceNe, Int.reduceAdd, Int.reduceSub, Int.reduceMul, Int.reduceNeg, q1, q2, q3, q4, q5, hb2, scC]
    refine cK_vp h8 (by simp [Heap.set, q1, q2, q3, q4, q5, hb2, scC]) ?_
    try simp only [go_sem, reduceIte, Nat.reduceEqDiff, Nat.reduceAdd, Nat.reduceSub, Nat.reduceMul, Nat.reduceLT, Nat.reduceLeDiff, Nat.reducePow, Int.reduceToNat, Int.reduceLT, Int.reduceLE, Int.reduceEq, Int.reduceNe, Int.reduceAdd, Int.reduceSub, Int.reduceMul, Int.reduceNeg, q1, q2, q3, q4, q5, hb2, scC])
  all_goals exact finK_var (b := p) (by simp [Heap.set, q1, q2, q3, q4, q5, hb2]) ⟨rfl, rfl, rfl⟩
def toI (i : Int) : Int := IntKind.i64.wrap i
/-- The loop of Decode: as many fields as are left. -/
def decL (b : List Nat) (rows : Int) : Nat → List Bd → Sc → List Bd × Sc
  | 0, l, s => (l, s)
  | n + 1, l, s => if s.2 = 0 then decL b rows n (l ++ [(bdsF b rows (l.getLast?.map (·.id)) s).1]) (bdsF b rows (l.getLast?.map (·.id)) s).2 else (l, s)
def decF (b : List Nat) (at_ : Int) : Sm × Int × Int :=
  if at_ < 0 ∨ (b.length : Int) < at_ then (⟨0, []⟩, 0, 1)
  else
    let r := nxU b (at_, 0)
    let s1 := failS r.2 2 (decide (2147483647 < r.1))
    let n := nxU b s1
    let s2 := failS n.2 2 (decide (64 < n.1))
    let x := decL b (toI r.1) n.1.toNat [] s2
    if x.2.2 = 0 then (⟨toI r.1, x.1⟩, x.2.1, 0) else (⟨0, []⟩, 0, x.2.2)
theorem nxU_pos (b : List Nat) (s : Sc) : 0 ≤ (nxU b s).1 := by unfold nxU; split <;> simp
theorem nxU_err (b : List Nat) (s : Sc) (h : (nxU b s).2.2 = 0) : s.2 = 0 := by
  unfold nxU at h
  split at h
  · assumption
  · exact h
theorem decL_err (b : List Nat) (rows : Int) (n : Nat) (l : List Bd) (s : Sc) (h : ¬ s.2 = 0) : decL b rows n l s = (l, s) := by
  cases n with
  | zero => rfl
  | succ n => rw [decL, if_neg h]
theorem failS_err {s : Sc} {e : Int} {w : Bool} (he : e ≠ 0) (h : (failS s e w).2 = 0) : s.2 = 0 ∧ w = false := by
  unfold failS at h
  split at h
  · exact absurd h he
  · rename_i hn
    refine ⟨h, ?_⟩
    cases w with
    | false => rfl
    | true => exact absurd ⟨h, rfl⟩ hn
set_option maxHeartbeats 4000000 in
theorem Decode_ok (hG : G 0 = some nullC) (tk : Tk) (b : List Nat) (at_ : Int) (hb : Byt b) (zb : b.length ≤ 1099511627776) : VN P G 9 [.sl tk (bs b), .int .i64 at_] (.tup [.agg (decF b at_).1.cells, .int .i64 (decF b at_).2.1, .int .i64 (decF b at_).2.2]) := by
  unfold VN
  refine VC.ofc (fun | 12 => [(0, []), (1, [4]), (2, []), (3, []), (4, []), (5, []), (6, []), (7, []), (8, [])] | 15 => [(0, []), (1, []), (2, []), (3, []), (4, [5]), (5, []), (6, []), (7, [])] | 16 => [(0, []), (1, []), (2, []), (3, []), (4, [5]), (5, []), (6, []), (7, [])] | 99999999 => [(0, [0, 1, 4, 5, 6, 7, 8, 9, 10, 18, 39, 40, 41, 46, 60])] | _ => []) [.cell 4 41, .tmp 5, .tmp 6] mixed Tryz.func9 rfl rfl rfl rfl (by decide +kernel) (by simp) ?_
  simp only [go_sem, reduceIte, Nat.reduceEqDiff, Nat.reduceAdd, Nat.reduceSub, Nat.reduceMul, Nat.reduceLT, Nat.reduceLeDiff, Nat.reducePow, Int.reduceToNat, Int.reduceLT, Int.reduceLE, Int.reduceEq, Int.reduceNe, Int.reduceAdd, Int.reduceSub, Int.reduceMul, Int.reduceNeg]
  intro b0
  have hlen : ((bs b).length : Int) = b.length := by rw [bs_length]
  by_cases k1 : at_ < 0
  · try simp only [go_sem, reduceIte, Nat.reduceEqDiff, Nat.reduceAdd, Nat.reduceSub, Nat.reduceMul, Nat.reduceLT, Nat.reduceLeDiff, Nat.reducePow, Int.reduceToNat, Int.reduceLT, Int.reduceLE, Int.reduceEq, Int.reduceNe, Int.reduceAdd, Int.reduceSub, Int.reduceMul, Int.reduceNeg, k1]
    exact finK_drop ⟨by rw [decF, if_pos (.inl k1)]; rfl, rfl, rfl⟩
  by_cases k2 : (b.length : Int) < at_
  · try simp only [go_sem, reduceIte, Nat.reduceEqDiff, Nat.reduceAdd, Nat.reduceSub, Nat.reduceMul, Nat.reduceLT, Nat.reduceLeDiff, Nat.reducePow, Int.reduceToNat, Int.reduceLT, Int.reduceLE, Int.reduceEq, Int.reduceNe, Int.reduceAdd, Int.reduceSub, Int.reduceMul, Int.reduceNeg, k1, k2]
    exact finK_drop ⟨by rw [decF, if_pos (.inr k2)]; rfl, rfl, rfl⟩
  obtain ⟨r, hr⟩ : ∃ r, nxU b (at_, 0) = r := ⟨_, rfl⟩
  obtain ⟨s1, hs1⟩ : ∃ s1, failS r.2 2 (decide (2147483647 < r.1)) = s1 := ⟨_, rfl⟩
  obtain ⟨n, hn⟩ : ∃ n, nxU b s1 = n := ⟨_, rfl⟩
  obtain ⟨s2, hs2⟩ : ∃ s2, failS n.2 2 (decide (64 < n.1)) = s2 := ⟨_, rfl⟩
  obtain ⟨x, hx⟩ : ∃ x, decL b (toI r.1) n.1.toNat [] s2 = x := ⟨_, rfl⟩
  have hF : decF b at_ = if x.2.2 = 0 then (⟨toI r.1, x.1⟩, x.2.1, 0) else (⟨0, []⟩, 0, x.2.2) := by
    rw [decF, if_neg (by omega)]
    subst hr hs1 hn hs2 hx; rfl
  have c1 := nextU_ok (G := G) tk b (at_, 0) hb
  have c2 := fail_ok (G := G) tk b r.2 2 (decide (2147483647 < r.1))
  have c3 := nextU_ok (G := G) tk b s1 hb
  have c4 := fail_ok (G := G) tk b n.2 2 (decide (64 < n.1))
  rw [hr] at c1
  rw [hs1] at c2
  rw [hn] at c3
  rw [hs2] at c4
  have r0 : 0 ≤ r.1 := by rw [← hr]; exact nxU_pos _ _
  have n0 : 0 ≤ n.1 := by rw [← hn]; exact nxU_pos _ _
  have hbig : s2.2 = 0 → n.1 ≤ 64 ∧ r.1 ≤ 2147483647 := fun h => by
    rw [← hs2] at h
    obtain ⟨g1, g2⟩ := failS_err (by decide) h
    rw [← hn] at g1
    have g3 := nxU_err _ _ g1
    rw [← hs1] at g3
    obtain ⟨g4, g5⟩ := failS_err (by decide) g3
    simp only [decide_eq_false_iff_not] at g2 g5
    omega
  rw [hF]
  try simp only [go_sem, reduceIte, Nat.reduceEqDiff, Nat.reduceAdd, Nat.reduceSub, Nat.reduceMul, Nat.reduceLT, Nat.reduceLeDiff, Nat.reducePow, Int.reduceToNat, Int.reduceLT, Int.reduceLE, Int.reduceEq, Int.reduceNe, Int.reduceAdd, Int.reduceSub, Int.reduceMul, Int.reduceNeg, k1, k2, hlen]
  refine new_1 fun b1 h1 h2 => ?_
  refine cK_vp c1 (by simp [Heap.set, scC]) ?_
  try simp only [go_sem, reduceIte, Nat.reduceEqDiff, Nat.reduceAdd, Nat.reduceSub, Nat.reduceMul, Nat.reduceLT, Nat.reduceLeDiff, Nat.reducePow, Int.reduceToNat, Int.reduceLT, Int.reduceLE, Int.reduceEq, Int.reduceNe, Int.reduceAdd, Int.reduceSub, Int.reduceMul, Int.reduceNeg, h1, h2]
  refine cK_vp c2 (by simp [Heap.set, h1, h2]) ?_
  try simp only [go_sem, reduceIte, Nat.reduceEqDiff, Nat.reduceAdd, Nat.reduceSub, Nat.reduceMul, Nat.reduceLT, Nat.reduceLeDiff, Nat.reducePow, Int.reduceToNat, Int.reduceLT, Int.reduceLE, Int.reduceEq, Int.reduceNe, Int.reduceAdd, Int.reduceSub, Int.reduceMul, Int.reduceNeg, h1, h2]
  refine cK_vp c3 (by simp [Heap.set, h1, h2]) ?_
  try simp only [go_sem, reduceIte, Nat.reduceEqDiff, Nat.reduceAdd, Nat.reduceSub, Nat.reduceMul, Nat.reduceLT, Nat.reduceLeDiff, Nat.reducePow, Int.reduceToNat, Int.reduceLT, Int.reduceLE, Int.reduceEq, Int.reduceNe, Int.reduceAdd, Int.reduceSub, Int.reduceMul, Int.reduceNeg, h1, h2]
  refine cK_vp c4 (by simp [Heap.set, h1, h2]) ?_
  try simp only [go_sem, reduceIte, Nat.reduceEqDiff, Nat.reduceAdd, Nat.reduceSub, Nat.reduceMul, Nat.reduceLT, Nat.reduceLeDiff, Nat.reducePow, Int.reduceToNat, Int.reduceLT, Int.reduceLE, Int.reduceEq, Int.reduceNe, Int.reduceAdd, Int.reduceSub, Int.reduceMul, Int.reduceNeg, h1, h2]
  refine new_any fun b2 hb2 => ?_
  simp only [set_none] at hb2
  try simp only [go_sem, reduceIte, Nat.reduceEqDiff, Nat.reduceAdd, Nat.reduceSub, Nat.reduceMul, Nat.reduceLT, Nat.reduceLeDiff, Nat.reducePow, Int.reduceToNat, Int.reduceLT, Int.reduceLE, Int.reduceEq, Int.reduceNe, Int.reduceAdd, Int.reduceSub, Int.reduceMul, Int.reduceNeg, h1, h2, hb2]
  generalize hβ : Heap.set _ b2 _ = β0
  have e0 : β0 b0 = some [.int .i64 0, .sl .full []] := by rw [← hβ]; simp [Heap.set, h1, h2, hb2]
  have e1 : β0 b1 = some (scC tk b s2) := by rw [← hβ]; simp [Heap.set, h1, h2, hb2]
  have e2 : β0 b2 = some [.int .i64 (toI r.1), .sl .full []] := by rw [← hβ]; simp [Heap.set, h1, h2, hb2, toI]
  clear hβ
  refine vwq_loop (fun v => ∃ (j : Nat) (l : List Bd) (s : Sc) (tk' : Tk), j ≤ n.1.toNat ∧ l.length = j ∧ TW 8 tk' v.ω ∧ (s.2 = 0 → n.1 ≤ 64 ∧ r.1 ≤ 2147483647) ∧ decL b (toI r.1) (n.1.toNat - j) l s = x ∧ v.σ 4 = .pb b0 0 ∧ v.σ 7 = .pb b1 0 ∧ v.σ 10 = .pb b2 0 ∧ v.σ 39 = .int .u64 n.1 ∧ v.σ 40 = .int .u64 j ∧ v.β b0 = some [.int .i64 0, .sl .full []] ∧ v.β b1 = some (scC tk b s) ∧ v.β b2 = some [.int .i64 (toI r.1), .sl tk' (l.map Bd.d)]) (fun v => n.1.toNat - (ival (v.σ 40)).toNat) ?_ ?_
  · exact ⟨0, [], s2, .full, by omega, rfl, TW.full 8, hbig, hx, rfl, rfl, rfl, rfl, rfl, e0, e1, e2⟩
  clear e0 e1 e2 β0
  rintro σ β ω ⟨j, l, s, tk', hj, hl, hw, hb', hd, q4, q7, q10, q39, q40, e0, e1, e2⟩
  dsimp only [scC] at hw q4 q7 q10 q39 q40 e0 e1 e2
  have ho := hw.ok
  have hg := hw.gone
  try simp only [go_sem, reduceIte, Nat.reduceEqDiff, Nat.reduceAdd, Nat.reduceSub, Nat.reduceMul, Nat.reduceLT, Nat.reduceLeDiff, Nat.reducePow, Int.reduceToNat, Int.reduceLT, Int.reduceLE, Int.reduceEq, Int.reduceNe, Int.reduceAdd, Int.reduceSub, Int.reduceMul, Int.reduceNeg, q4, q7, q10, q39, q40, e0, e1, e2]
  refine cd_dec (fun g => ?_) (fun g => ?_)
  · by_cases k : s.2 = 0
    · obtain ⟨g1, g2⟩ := hb' k
      have hrow : toI r.1 = r.1 := wrap_i64 (by omega) (by omega)
      have cb := bounds_ok (G := G) hG tk tk' b s hb (toI r.1) l (by omega) (by omega)
      obtain ⟨y, hy⟩ : ∃ y, bdsF b (toI r.1) (l.getLast?.map (·.id)) s = y := ⟨_, rfl⟩
      rw [hy] at cb
      simp only [Bd.cells] at cb
      have hd' : decL b (toI r.1) (n.1.toNat - (j + 1)) (l ++ [y.1]) y.2 = x := by
        rw [← hd, show n.1.toNat - j = (n.1.toNat - (j + 1)) + 1 by omega, decL, if_pos k, hy]
      have wj : ((j : Int) + 1) % 18446744073709551616 = (j : Int) + 1 := by omega
      try simp only [go_sem, reduceIte, Nat.reduceEqDiff, Nat.reduceAdd, Nat.reduceSub, Nat.reduceMul, Nat.reduceLT, Nat.reduceLeDiff, Nat.reducePow, Int.reduceToNat, Int.reduceLT, Int.reduceLE, Int.reduceEq, Int.reduceNe, Int.reduceAdd, Int.reduceSub, Int.reduceMul, Int.reduceNeg, q4, q7, q10, q39, q40, e0, e1, e2, k]
      refine cE_vp cb (by simp [e1, scC, k]) (by simp [rdAdd, h1, h2, hb2]) ?_
      try simp only [go_sem, reduceIte, Nat.reduceEqDiff, Nat.reduceAdd, Nat.reduceSub, Nat.reduceMul, Nat.reduceLT, Nat.reduceLeDiff, Nat.reducePow, Int.reduceToNat, Int.reduceLT, Int.reduceLE, Int.reduceEq, Int.reduceNe, Int.reduceAdd, Int.reduceSub, Int.reduceMul, Int.reduceNeg, q4, q7, q10, q39, q40, e0, e1, e2, k, h1, h2, hb2, ho, hg, rdAdd, false_or, wj]
      refine ⟨Bd_cells8 _, by rw [List.length_map]; omega, fun t' _ => ?_⟩
      refine ⟨⟨j + 1, l ++ [y.1], y.2, .live t' 8, by omega, by simp [hl], TW.live 8 t', fun _ => ⟨g1, g2⟩, hd', ?_⟩, by omega⟩
      simp [Heap.set, h1, h2, hb2, e0, e1, e2, scC, Bd.d, Bd.cells]
    · have hx' : x = (l, s) := by rw [← hd, decL_err _ _ _ _ _ k]
      try simp only [go_sem, reduceIte, Nat.reduceEqDiff, Nat.reduceAdd, Nat.reduceSub, Nat.reduceMul, Nat.reduceLT, Nat.reduceLeDiff, Nat.reducePow, Int.reduceToNat, Int.reduceLT, Int.reduceLE, Int.reduceEq, Int.reduceNe, Int.reduceAdd, Int.reduceSub, Int.reduceMul, Int.reduceNeg, q4, q7, q10, q39, q40, e0, e1, e2, k, ne_eq]
      refine ⟨by simp [rdAdd, h1, h2], finK_drop ⟨?_, rfl, rfl⟩⟩
      rw [hx', if_neg k]; rfl
  · have hx' : x = (l, s) := by rw [← hd, show n.1.toNat - j = 0 by omega]; rfl
    try simp only [go_sem, reduceIte, Nat.reduceEqDiff, Nat.reduceAdd, Nat.reduceSub, Nat.reduceMul, Nat.reduceLT, Nat.reduceLeDiff, Nat.reducePow, Int.reduceToNat, Int.reduceLT, Int.reduceLE, Int.reduceEq, Int.reduceNe, Int.reduceAdd, Int.reduceSub, Int.reduceMul, Int.reduceNeg, q4, q7, q10, q39, q40, e0, e1, e2]
    by_cases k : s.2 = 0
    · try simp only [go_sem, reduceIte, Nat.reduceEqDiff, Nat.reduceAdd, Nat.reduceSub, Nat.reduceMul, Nat.reduceLT, Nat.reduceLeDiff, Nat.reducePow, Int.reduceToNat, Int.reduceLT, Int.reduceLE, Int.reduceEq, Int.reduceNe, Int.reduceAdd, Int.reduceSub, Int.reduceMul, Int.reduceNeg, q4, q7, q10, q39, q40, e0, e1, e2, k, ne_eq]
      refine ⟨by simp [rdAdd, h1, h2, hb2], finK_drop ⟨?_, rfl, rfl⟩⟩
      rw [hx', if_pos k]; rfl
    · try simp only [go_sem, reduceIte, Nat.reduceEqDiff, Nat.reduceAdd, Nat.reduceSub, Nat.reduceMul, Nat.reduceLT, Nat.reduceLeDiff, Nat.reducePow, Int.reduceToNat, Int.reduceLT, Int.reduceLE, Int.reduceEq, Int.reduceNe, Int.reduceAdd, Int.reduceSub, Int.reduceMul, Int.reduceNeg, q4, q7, q10, q39, q40, e0, e1, e2, k, ne_eq]
      refine ⟨by simp [rdAdd, h1, h2], finK_drop ⟨?_, rfl, rfl⟩⟩
      rw [hx', if_neg k]; rfl
end Go.Proofs.YtnoenipdooackaaGreatDoorS
namespace Go.Proofs.YtnoenipdooackaaGreatDoorS
open Go Go.Proofs.YtnoenipdooackaaGreatDoorV

variable {G : Heap}

theorem VN.er {P : Program} {f : FuncId} {args : List D} {d : D} (h : VN P G f (args.map D.er) d) : VN P G f args d :=
  fun K w vargs hr ha => h K w vargs hr (ha.map fun _ _ h => h.er)
attribute [local irreducible] VN VC VX VQ

theorem between' (id lo hi : Int) : VN P G 17 [.int .i64 id, .int .i64 lo, .int .i64 hi] (.agg [.int .i64 1, .int .i64 id, .int .i64 lo, .int .i64 hi, .sl .none [], .str ByteArray.empty, .sl .none []]) := mkbetween_ok id lo hi
theorem null' (id : Int) : VN P G 18 [.int .i64 id] (.agg [.int .i64 4, .int .i64 id, .int .i64 0, .int .i64 0, .sl .none [], .str ByteArray.empty, .sl .none []]) := mknull_ok id
theorem not' (c : List D) (p : Pr) (h : p.cells = c) : VN P G 14 [.agg c] (.agg [.int .i64 7, .int .i64 0, .int .i64 0, .int .i64 0, .sl .none [], .str ByteArray.empty, .sl .none [.agg c]]) := by
  subst h
  have := mknot_ok (G := G) p
  have e : (Pr.mk 7 0 0 0 [] ByteArray.empty [p]).cells = [.int .i64 7, .int .i64 0, .int .i64 0, .int .i64 0, .sl .none [], .str ByteArray.empty, .sl .none [.agg p.cells]] := by
    simp only [Pr.cells, Pr.kids, List.map_cons, List.map_nil, Pr.d_eq]; rfl
  rw [e] at this
  exact this
theorem row' (n : Int) : VN P G 16 [.int .i64 n] (.agg [.sl .none [.agg [.int .i64 1, .bool false, .int .i64 n, .str ByteArray.empty]]]) := mkrow_ok n
theorem Lim0 {p : Pr} (h : p.kids = []) : p.Lim := .mk p (by rw [h]; simp) fun k hk => by rw [h] at hk; cases hk
theorem Lims {p : Pr} (h1 : p.kids.length ≤ 1048576) (h : ∀ k ∈ p.kids, k.kids = []) : p.Lim := .mk p h1 fun k hk => Lim0 (h k hk)
theorem May' (u : Sm) (p : Pr) (b : Bool) (h : mayT u p = b) (hL : p.Lim) : VN P G 12 [.agg u.cells, .agg p.cells] (.bool b) := by rw [← h]; exact May_ok u p hL
theorem Must' (u : Sm) (p : Pr) (b : Bool) (h : mustT u p = b) (hL : p.Lim) : VN P G 13 [.agg u.cells, .agg p.cells] (.bool b) := by rw [← h]; exact Must_ok u p hL
theorem Covers' (hG : G 0 = some nullC) (u : Sm) (r : Rw) (b : Bool) (h : coversF u r = b) : VN P G 19 [.agg u.cells, .agg [.sl .none (r.map clD)]] (.bool b) := by rw [← h]; exact Covers_ok hG u r
def vN (n : Int) : Vl := ⟨false, n, ByteArray.empty⟩
def uL : Sm := ⟨3, [⟨1, 1, vN 3, vN 8⟩]⟩
def noL : Sm := ⟨0, [⟨1, 0, Vl.nul, Vl.nul⟩]⟩
def btwL (id lo hi : Int) : Pr := .mk 1 id lo hi [] ByteArray.empty []
def nulL (id : Int) : Pr := .mk 4 id 0 0 [] ByteArray.empty []
def truL : Pr := .mk 0 0 0 0 [] ByteArray.empty []
def notL (p : Pr) : Pr := .mk 7 0 0 0 [] ByteArray.empty [p]
def orL (p q : Pr) : Pr := .mk 6 0 0 0 [] ByteArray.empty [p, q]
def fdL : List Fd := [⟨1, ⟨#[97]⟩, 3, 0⟩]
theorem OfA (hG : G 0 = some nullC) : VN P G 8 [.agg [.sl .none (fdL.map fdD), .int .i64 2], .sl .none ([[((1 : Int), vN 3)], [], [((1 : Int), vN 8)]].map rwD)] (.agg [.int .i64 3, .sl .none [.agg [.int .i64 1, .int .i64 1, .bool false, .int .i64 3, .str ByteArray.empty, .bool false, .int .i64 8, .str ByteArray.empty]]]) := by
  have h := Of_ok (G := G) hG fdL 2 [[((1 : Int), vN 3)], [], [((1 : Int), vN 8)]] (by decide) (by decide)
  have e : ofF (leavesF fdL) [[((1 : Int), vN 3)], [], [((1 : Int), vN 8)]] = uL := by
    have hb : bdF [[((1 : Int), vN 3)], [], [((1 : Int), vN 8)]] 1 = ⟨1, 1, vN 3, vN 8⟩ := by decide +kernel
    have hl : leavesF fdL = [1] := by decide +kernel
    rw [ofF, hl, List.map_cons, hb]; rfl
  rw [e] at h
  exact h
theorem OfB (hG : G 0 = some nullC) : VN P G 8 [.agg [.sl .none (fdL.map fdD), .int .i64 2], .sl .none []] (.agg [.int .i64 0, .sl .none [.agg [.int .i64 1, .int .i64 0, .bool true, .int .i64 0, .str ByteArray.empty, .bool true, .int .i64 0, .str ByteArray.empty]]]) := by
  have h := Of_ok (G := G) hG fdL 2 [] (by decide) (by decide)
  have e : ofF (leavesF fdL) [] = noL := by
    have hl : leavesF fdL = [1] := by decide +kernel
    rw [ofF, hl]; rfl
  rw [e] at h
  exact h
instance : DecidableEq Sm := fun a b => decidable_of_iff (a.rows = b.rows ∧ a.l = b.l) (by cases a; cases b; simp)
theorem DecA (hG : G 0 = some nullC) : VN P G 9 [.sl .none (bs [1, 1, 0, 2]), .int .i64 0] (.tup [.agg [.int .i64 0, .sl .none []], .int .i64 0, .int .i64 5]) := by
  have h := Decode_ok (G := G) hG .none [1, 1, 0, 2] 0 (byt_all (by decide)) (by decide)
  have e : decF [1, 1, 0, 2] 0 = (⟨0, []⟩, 0, 5) := by decide +kernel
  rw [e] at h
  exact h
theorem DecB (hG : G 0 = some nullC) : VN P G 9 [.sl .none (bs []), .int .i64 1] (.tup [.agg [.int .i64 0, .sl .none []], .int .i64 0, .int .i64 1]) := by
  have h := Decode_ok (G := G) hG .none [] 1 (byt_all (by decide)) (by decide)
  have e : decF [] 1 = (⟨0, []⟩, 0, 1) := by decide +kernel
  rw [e] at h
  exact h
theorem EncA (hG : G 0 = some nullC) : VN P G 10 [.sl .none (bs []), .agg uL.cells] (.sl .none (bs [3, 1, 2, 1, 6, 0, 16, 0])) := by
  have h := Encode_ok (G := G) hG .none [] uL (by decide) (fun x hx => by simp only [uL, List.mem_singleton] at hx; subst hx; simp [Bd.I, vN, I64])
  have e : encF uL = [3, 1, 2, 1, 6, 0, 16, 0] := by decide +kernel
  rw [e] at h
  exact h
theorem EncB (hG : G 0 = some nullC) : VN P G 10 [.sl .none (bs []), .agg [.int .i64 (-1), .sl .none []]] (.sl .none (bs [])) := by
  have h := Encode_ok (G := G) hG .none [] ⟨-1, []⟩ (by decide) (fun x hx => by simp at hx)
  have e : encF ⟨-1, []⟩ = [] := by decide +kernel
  rw [e] at h
  exact h

theorem sMay0 : VN P G 12 [.agg (uL).cells, .agg (btwL 1 4 5).cells] (.bool true) := May' _ _ _ (by decide +kernel) (Lims (by decide) (by decide))
theorem sMay1 : VN P G 12 [.agg (uL).cells, .agg (btwL 1 9 20).cells] (.bool false) := May' _ _ _ (by decide +kernel) (Lims (by decide) (by decide))
theorem sMay2 : VN P G 12 [.agg (uL).cells, .agg (btwL 1 8 8).cells] (.bool true) := May' _ _ _ (by decide +kernel) (Lims (by decide) (by decide))
theorem sMay3 : VN P G 12 [.agg (uL).cells, .agg (notL (btwL 1 3 8)).cells] (.bool false) := May' _ _ _ (by decide +kernel) (Lims (by decide) (by decide))
theorem sMay4 : VN P G 12 [.agg (uL).cells, .agg (nulL 1).cells] (.bool true) := May' _ _ _ (by decide +kernel) (Lims (by decide) (by decide))
theorem sMay5 : VN P G 12 [.agg (uL).cells, .agg (btwL 2 0 0).cells] (.bool true) := May' _ _ _ (by decide +kernel) (Lims (by decide) (by decide))
theorem sMay6 : VN P G 12 [.agg (noL).cells, .agg (truL).cells] (.bool false) := May' _ _ _ (by decide +kernel) (Lims (by decide) (by decide))
theorem sMust0 : VN P G 13 [.agg (uL).cells, .agg (btwL 1 0 9).cells] (.bool false) := Must' _ _ _ (by decide +kernel) (Lims (by decide) (by decide))
theorem sMust1 : VN P G 13 [.agg (uL).cells, .agg (orL (btwL 1 0 9) (nulL 1)).cells] (.bool false) := Must' _ _ _ (by decide +kernel) (Lims (by decide) (by decide))
theorem sMust2 : VN P G 13 [.agg (uL).cells, .agg (orL (btwL 1 0 9) truL).cells] (.bool true) := Must' _ _ _ (by decide +kernel) (Lims (by decide) (by decide))
theorem sMust3 : VN P G 13 [.agg (noL).cells, .agg (nulL 1).cells] (.bool true) := Must' _ _ _ (by decide +kernel) (Lims (by decide) (by decide))
theorem sMust4 : VN P G 13 [.agg (uL).cells, .agg (nulL 1).cells] (.bool false) := Must' _ _ _ (by decide +kernel) (Lims (by decide) (by decide))
theorem sCov0 (hG : G 0 = some nullC) : VN P G 19 [.agg (uL).cells, .agg [.sl .none (([((1 : Int), vN 5)] : Rw).map clD)]] (.bool true) := Covers' hG _ _ _ (by decide +kernel)
theorem sCov1 (hG : G 0 = some nullC) : VN P G 19 [.agg (uL).cells, .agg [.sl .none (([] : Rw).map clD)]] (.bool true) := Covers' hG _ _ _ (by decide +kernel)
theorem sCov2 (hG : G 0 = some nullC) : VN P G 19 [.agg (uL).cells, .agg [.sl .none (([((1 : Int), vN 9)] : Rw).map clD)]] (.bool false) := Covers' hG _ _ _ (by decide +kernel)
theorem sCov3 (hG : G 0 = some nullC) : VN P G 19 [.agg (noL).cells, .agg [.sl .none (([] : Rw).map clD)]] (.bool false) := Covers' hG _ _ _ (by decide +kernel)
theorem sNot : VN P G 14 [.agg (btwL 1 3 8).cells] (.agg [.int .i64 7, .int .i64 0, .int .i64 0, .int .i64 0, .sl .none [], .str ByteArray.empty, .sl .none [.agg (btwL 1 3 8).cells]]) := not' _ _ rfl
theorem sSame1 (x : List Nat) : VN P G 20 [.sl .none (bs x), .sl .none (bs x)] (.bool true) := by
  have := same_ok (G := G) .none .none x x
  rw [decide_eq_true rfl] at this
  exact this
theorem sSame2 : VN P G 11 [.agg uL.cells, .agg uL.cells] (.bool true) := by
  have := refSame_ok (G := G) uL uL
  rw [show smSame uL uL = true from by decide +kernel] at this
  exact this
set_option maxHeartbeats 4000000 in
set_option maxRecDepth 100000 in
theorem sanity_ok (hG : G 0 = some nullC) : VN P G 4 [] (.bool true) := by
  unfold VN
  refine VC.ofs (fun | 2 => [(0, [1, 3]), (2, []), (1, [6]), (3, [6]), (4, []), (5, [6]), (6, []), (7, [])] | 7 => [(0, [1]), (1, []), (2, []), (3, []), (4, [5]), (5, []), (6, []), (7, []), (8, []), (9, []), (10, [11]), (11, []), (12, []), (13, []), (14, []), (15, [16, 17]), (16, []), (17, []), (18, []), (19, []), (20, []), (21, []), (22, [23]), (23, []), (24, []), (25, []), (26, []), (27, [28]), (28, []), (29, []), (30, []), (31, []), (32, []), (33, []), (34, []), (35, []), (36, []), (37, [])] | 8 => [(0, [1]), (1, []), (2, []), (3, []), (4, []), (5, []), (6, []), (7, []), (8, []), (9, []), (10, []), (11, []), (12, []), (13, []), (14, []), (15, []), (16, [17]), (17, []), (18, []), (19, []), (20, []), (21, [22]), (22, []), (23, []), (24, []), (25, []), (26, [])] | 9 => [(0, [1]), (1, []), (2, []), (3, []), (4, []), (5, []), (6, []), (7, []), (8, []), (9, [10]), (10, []), (11, []), (12, []), (13, []), (14, []), (15, []), (16, []), (17, []), (18, []), (19, []), (20, [])] | 99999999 => [(0, [0, 1, 2, 3, 4, 5, 6, 7, 8, 9, 12, 15, 16])] | _ => []) [0] mixed Tryz.func4 rfl rfl rfl rfl (by decide +kernel) (by simp) ?_
  simp only [go_sem, reduceIte, Nat.reduceEqDiff, Nat.reduceAdd, Nat.reduceSub, Nat.reduceMul, Nat.reduceLT, Nat.reduceLeDiff, Nat.reducePow, Int.reduceToNat, Int.reduceLT, Int.reduceLE, Int.reduceEq, Int.reduceNe, Int.reduceAdd, Int.reduceSub, Int.reduceMul, Int.reduceNeg]
  intro b0
  have hh : True := trivial
  repeat' (first
    | simp only [go_sem, reduceIte, Nat.reduceEqDiff, Nat.reduceAdd, Nat.reduceSub, Nat.reduceMul, Nat.reduceLT, Nat.reduceLeDiff, Nat.reducePow, Int.reduceToNat, Int.reduceLT, Int.reduceLE, Int.reduceEq, Int.reduceNe, Int.reduceAdd, Int.reduceSub, Int.reduceMul, Int.reduceNeg, hG, hh]
    | (refine ⟨(by simp [rdAdd, hh]; done), ?_⟩)
    | refine cE_vn (row' _) ?_
    | refine cE_vn (VN.er (OfA hG)) ?_
    | refine cE_vn (VN.er (OfB hG)) ?_
    | refine cE_vn (between' _ _ _) ?_
    | refine cE_vn (null' _) ?_
    | refine cE_vn (VN.er sMay0) ?_
    | refine cE_vn (VN.er sMay1) ?_
    | refine cE_vn (VN.er sMay2) ?_
    | refine cE_vn (VN.er sMay3) ?_
    | refine cE_vn (VN.er sMay4) ?_
    | refine cE_vn (VN.er sMay5) ?_
    | refine cE_vn (VN.er sMay6) ?_
    | refine cE_vn (VN.er sMust0) ?_
    | refine cE_vn (VN.er sMust1) ?_
    | refine cE_vn (VN.er sMust2) ?_
    | refine cE_vn (VN.er sMust3) ?_
    | refine cE_vn (VN.er sMust4) ?_
    | refine cE_vn (VN.er (sCov0 hG)) ?_
    | refine cE_vn (VN.er (sCov1 hG)) ?_
    | refine cE_vn (VN.er (sCov2 hG)) ?_
    | refine cE_vn (VN.er (sCov3 hG)) ?_
    | refine cE_vn (VN.er sNot) ?_
    | refine cE_vn (VN.er (DecA hG)) ?_
    | refine cE_vn (VN.er (DecB hG)) ?_
    | refine cE_vn (VN.er (EncA hG)) ?_
    | refine cE_vn (VN.er (EncB hG)) ?_
    | refine cE_vn (VN.er (sSame1 [3, 1, 2, 1, 6, 0, 16, 0])) ?_
    | refine cE_vn (VN.er (sSame1 [])) ?_
    | refine cE_vn (VN.er sSame2) ?_
    | refine cK_vn (row' _) ?_
    | refine cK_vn (VN.er (OfA hG)) ?_
    | refine cK_vn (VN.er (OfB hG)) ?_
    | refine cK_vn (between' _ _ _) ?_
    | refine cK_vn (null' _) ?_
    | refine cK_vn (VN.er sMay0) ?_
    | refine cK_vn (VN.er sMay1) ?_
    | refine cK_vn (VN.er sMay2) ?_
    | refine cK_vn (VN.er sMay3) ?_
    | refine cK_vn (VN.er sMay4) ?_
    | refine cK_vn (VN.er sMay5) ?_
    | refine cK_vn (VN.er sMay6) ?_
    | refine cK_vn (VN.er sMust0) ?_
    | refine cK_vn (VN.er sMust1) ?_
    | refine cK_vn (VN.er sMust2) ?_
    | refine cK_vn (VN.er sMust3) ?_
    | refine cK_vn (VN.er sMust4) ?_
    | refine cK_vn (VN.er (sCov0 hG)) ?_
    | refine cK_vn (VN.er (sCov1 hG)) ?_
    | refine cK_vn (VN.er (sCov2 hG)) ?_
    | refine cK_vn (VN.er (sCov3 hG)) ?_
    | refine cK_vn (VN.er sNot) ?_
    | refine cK_vn (VN.er (DecA hG)) ?_
    | refine cK_vn (VN.er (DecB hG)) ?_
    | refine cK_vn (VN.er (EncA hG)) ?_
    | refine cK_vn (VN.er (EncB hG)) ?_
    | refine cK_vn (VN.er (sSame1 [3, 1, 2, 1, 6, 0, 16, 0])) ?_
    | refine cK_vn (VN.er (sSame1 [])) ?_
    | refine cK_vn (VN.er sSame2) ?_
    | (refine new_any fun b hb => ?_; simp only [set_none] at hb; replace hh := And.intro hh hb; clear hb))
  exact finK_drop ⟨rfl, rfl, rfl⟩
end Go.Proofs.YtnoenipdooackaaGreatDoorS
