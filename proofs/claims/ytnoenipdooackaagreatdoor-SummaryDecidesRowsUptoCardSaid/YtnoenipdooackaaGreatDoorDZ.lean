import Derived.Test.YtnoenipdooackaaGreatDoorE2
import Derived.Test.YtnoenipdooackaaGreatDoorG5
import Derived.Test.YtnoenipdooackaaGreatDoorRC
set_option linter.unusedVariables false
set_option linter.unusedSimpArgs false
namespace Go.Proofs.YtnoenipdooackaaGreatDoorS
open Go Go.Proofs.YtnoenipdooackaaGreatDoorV

variable {G : Heap}
attribute [local irreducible] VN VC VX VQ

@[go_sem] theorem gdV_wn_off (d : D) (want : Bool) : gdV (D.wn false d) want = some false := by
  cases d with
  | when c d => cases d <;> rfl
  | _ => rfl
theorem eval_ok (r : Rw) : ∀ (n : Nat) (p : Pr), SizeOf.sizeOf p ≤ n → p.Lim → VN P G 15 [.agg p.cells, .agg [.sl .none (r.map clD)]] (.int .i64 (evalP r p))
  | 0, p, h, _ => by cases p; simp at h
  | n + 1, p, hn, hL => by
    obtain ⟨_, z3, hk⟩ := hL
    exact eval_step r p z3 fun k hk' => eval_ok r n k (Nat.le_of_lt_succ (Nat.lt_of_lt_of_le (Pr.kid_lt (p := p) hk') hn)) (hk k hk')
def notP (p : Pr) : Pr := .mk 7 0 0 0 [] ByteArray.empty [p]
theorem notP_lim {p : Pr} (h : p.Lim) : (notP p).Lim := .mk _ (by simp [notP, Pr.kids]) fun k hk => by simp [notP, Pr.kids] at hk; subst hk; exact h
theorem possT_not (u : Sm) (p : Pr) : possT u (notP p) = (possT u p).turn := by
  rw [possT_eq]; simp [notP, Pr.op, Pr.kids]
theorem notP_cells (p : Pr) : (notP p).cells = [.int .i64 7, .int .i64 0, .int .i64 0, .int .i64 0, .sl .none [], .str ByteArray.empty, .sl .none [.agg p.cells]] := by
  simp only [notP, Pr.cells, Pr.kids, List.map_cons, List.map_nil, Pr.d_eq]; rfl
end Go.Proofs.YtnoenipdooackaaGreatDoorS
namespace Go.Proofs.YtnoenipdooackaaGreatDoorS
open Go Go.Proofs.YtnoenipdooackaaGreatDoorV

variable {G : Heap}
attribute [local irreducible] VN VC VX VQ VT0

set_option maxRecDepth 100000 in
set_option maxHeartbeats 8000000 in
theorem rows_ok (hG : G 0 = some nullC) (t : Tb) (p : Pr) (ht : ∀ l ∈ t.v, ∀ v ∈ l, I64 v.n) (hL : p.Lim) (hI : p.I) : VN P G 3 [.agg t.cells, .agg p.cells] (.bool true) := by
  have s0 := sanity_ok (G := G) hG
  have l1 := Small_ok (G := G) p 300
  have md := made_ok (G := G) t ht
  have mq : ∀ (fs : List Fd) (nx : Int), fs.length ≤ 64 → VX P G 7 [.agg [.sl .none (fs.map fdD), .int .i64 nx], .agg p.cells] isPr := fun fs nx z => MadeR_ok fs nx z p hL hI
  simp only [Pr.cells, Tb.cells] at l1 md mq ⊢
  unfold VN
  refine VC.ofs (fun | 10 => [(0, []), (1, []), (3, [2]), (4, [2]), (6, [2, 5, 8]), (7, [2, 5]), (2, []), (5, []), (8, []), (9, []), (10, []), (11, []), (12, [])] | 14 => [(0, []), (1, []), (2, []), (3, []), (4, []), (5, []), (6, [])] | 99999999 => [(0, [0, 1, 2, 3, 4, 5, 6, 7, 8, 9, 10, 12, 13, 14, 15, 16, 17, 21, 48, 62, 93])] | _ => []) [4] mixed Tryz.func3 rfl rfl rfl rfl (by decide +kernel) (by simp) ?_
  simp only [go_sem, reduceIte, Nat.reduceEqDiff, Nat.reduceAdd, Nat.reduceSub, Nat.reduceMul, Nat.reduceLT, Nat.reduceLeDiff, Nat.reducePow, Int.reduceToNat, Int.reduceLT, Int.reduceLE, Int.reduceEq, Int.reduceNe, Int.reduceAdd, Int.reduceSub, Int.reduceMul, Int.reduceNeg]
  intro b0
  refine new_1 fun b1 h1 h2 => ?_
  try simp only [go_sem, reduceIte, Nat.reduceEqDiff, Nat.reduceAdd, Nat.reduceSub, Nat.reduceMul, Nat.reduceLT, Nat.reduceLeDiff, Nat.reducePow, Int.reduceToNat, Int.reduceLT, Int.reduceLE, Int.reduceEq, Int.reduceNe, Int.reduceAdd, Int.reduceSub, Int.reduceMul, Int.reduceNeg, h1, h2]
  refine cK_vn s0 ?_
  try simp only [go_sem, reduceIte, Nat.reduceEqDiff, Nat.reduceAdd, Nat.reduceSub, Nat.reduceMul, Nat.reduceLT, Nat.reduceLeDiff, Nat.reducePow, Int.reduceToNat, Int.reduceLT, Int.reduceLE, Int.reduceEq, Int.reduceNe, Int.reduceAdd, Int.reduceSub, Int.reduceMul, Int.reduceNeg, h1, h2]
  refine cK_vx l1 ?_
  rintro _ ⟨lt, rfl⟩
  cases lt
  · try simp only [go_sem, reduceIte, Nat.reduceEqDiff, Nat.reduceAdd, Nat.reduceSub, Nat.reduceMul, Nat.reduceLT, Nat.reduceLeDiff, Nat.reducePow, Int.reduceToNat, Int.reduceLT, Int.reduceLE, Int.reduceEq, Int.reduceNe, Int.reduceAdd, Int.reduceSub, Int.reduceMul, Int.reduceNeg, h1, h2]
    exact finK_drop ⟨rfl, rfl, rfl⟩
  try simp only [go_sem, reduceIte, Nat.reduceEqDiff, Nat.reduceAdd, Nat.reduceSub, Nat.reduceMul, Nat.reduceLT, Nat.reduceLeDiff, Nat.reducePow, Int.reduceToNat, Int.reduceLT, Int.reduceLE, Int.reduceEq, Int.reduceNe, Int.reduceAdd, Int.reduceSub, Int.reduceMul, Int.reduceNeg, h1, h2]
  refine cK_vx md ?_
  rintro _ ⟨fs, nx, L, rfl, hs, hLn, hR⟩
  have zf := hs.len
  try simp only [go_sem, reduceIte, Nat.reduceEqDiff, Nat.reduceAdd, Nat.reduceSub, Nat.reduceMul, Nat.reduceLT, Nat.reduceLeDiff, Nat.reducePow, Int.reduceToNat, Int.reduceLT, Int.reduceLE, Int.reduceEq, Int.reduceNe, Int.reduceAdd, Int.reduceSub, Int.reduceMul, Int.reduceNeg, h1, h2]
  refine new_any fun b2 h3 => ?_
  simp only [set_none] at h3
  try simp only [go_sem, reduceIte, Nat.reduceEqDiff, Nat.reduceAdd, Nat.reduceSub, Nat.reduceMul, Nat.reduceLT, Nat.reduceLeDiff, Nat.reducePow, Int.reduceToNat, Int.reduceLT, Int.reduceLE, Int.reduceEq, Int.reduceNe, Int.reduceAdd, Int.reduceSub, Int.reduceMul, Int.reduceNeg, h1, h2, h3]
  refine cK_vx (mq fs nx zf) ?_
  rintro _ ⟨q, rfl, qL⟩
  obtain ⟨fm, fi⟩ := of_formed hs hR hLn
  have of := Of_ok (G := G) hG fs nx L (by omega) (by omega)
  have hc0 : ∀ r ∈ L, 0 < (ofF (leavesF fs) L).rows ∧ has (possT (ofF (leavesF fs) L) q) (evalP r q) = true := fun r hr => ⟨(covers_in (of_covers hr)).1, poss_sound (of_covers hr) _ q (Nat.le_refl _)⟩
  generalize ofF (leavesF fs) L = u at fm fi of hc0
  have en := Encode_t0 hG .full [] u (by simp) fi fm
  have hel := encS_len fm fi
  have d1 : ∀ tk, VN P G 9 [.sl tk (bs (encS u)), .int .i64 0] (.tup [.agg u.cells, .int .i64 ((encS u).length : Int), .int .i64 0]) := fun tk => by
    have h := decF_enc fm fi [] []
    have h2 := Decode_ok hG tk (encS u) 0 (byt_encS u) (by omega)
    simp only [List.nil_append, List.append_nil, List.length_nil] at h
    rw [show decF (encS u) 0 = (u, ((encS u).length : Int), 0) from h] at h2
    exact h2
  have sm : VN P G 11 [.agg u.cells, .agg u.cells] (.bool true) := by
    have h := refSame_ok (G := G) u u
    rw [show smSame u u = true from by simp [smSame]] at h
    exact h
  have ev := fun r => eval_ok (G := G) r _ q (Nat.le_refl _) qL
  have m1 := May_ok (G := G) u q qL
  have m3 := Must_ok (G := G) u q qL
  have m4 := Must_ok (G := G) u (notP q) (notP_lim qL)
  have nt := mknot_ok (G := G) q
  rw [show (Pr.mk 7 0 0 0 [] ByteArray.empty [q]).cells = (notP q).cells from rfl] at nt
  rw [notP_cells] at m4 nt
  have q1 : 0 < u.rows → mayT u q = (possT u q).y := fun h => by rw [mayT, decide_eq_true h, Bool.true_and]
  have q3 : 0 < u.rows → mustT u q = decide (possT u q = ⟨true, false, false⟩) := fun h => by rw [mustT, decide_eq_false (by omega), Bool.false_or]
  have q4 : 0 < u.rows → mustT u (notP q) = decide ((possT u q).turn = ⟨true, false, false⟩) := fun h => by rw [mustT, decide_eq_false (by omega), Bool.false_or, possT_not]
  generalize mayT u q = may at m1 q1
  generalize mustT u q = must at m3 q3
  generalize mustT u (notP q) = never at m4 q4
  simp only [Sm.cells, Pr.cells, List.nil_append] at of en d1 sm ev m1 m3 m4 nt
  try simp only [go_sem, reduceIte, Nat.reduceEqDiff, Nat.reduceAdd, Nat.reduceSub, Nat.reduceMul, Nat.reduceLT, Nat.reduceLeDiff, Nat.reducePow, Int.reduceToNat, Int.reduceLT, Int.reduceLE, Int.reduceEq, Int.reduceNe, Int.reduceAdd, Int.reduceSub, Int.reduceMul, Int.reduceNeg, h1, h2, h3, Pr.cells]
  refine new_any fun b3 h4 => ?_
  simp only [set_none] at h4
  try simp only [go_sem, reduceIte, Nat.reduceEqDiff, Nat.reduceAdd, Nat.reduceSub, Nat.reduceMul, Nat.reduceLT, Nat.reduceLeDiff, Nat.reducePow, Int.reduceToNat, Int.reduceLT, Int.reduceLE, Int.reduceEq, Int.reduceNe, Int.reduceAdd, Int.reduceSub, Int.reduceMul, Int.reduceNeg, h1, h2, h3, h4, Pr.cells]
  refine cK_vn of ?_
  try simp only [go_sem, reduceIte, Nat.reduceEqDiff, Nat.reduceAdd, Nat.reduceSub, Nat.reduceMul, Nat.reduceLT, Nat.reduceLeDiff, Nat.reducePow, Int.reduceToNat, Int.reduceLT, Int.reduceLE, Int.reduceEq, Int.reduceNe, Int.reduceAdd, Int.reduceSub, Int.reduceMul, Int.reduceNeg, h1, h2, h3, h4]
  refine new_any fun b4 h5 => ?_
  simp only [set_none] at h5
  try simp only [go_sem, reduceIte, Nat.reduceEqDiff, Nat.reduceAdd, Nat.reduceSub, Nat.reduceMul, Nat.reduceLT, Nat.reduceLeDiff, Nat.reducePow, Int.reduceToNat, Int.reduceLT, Int.reduceLE, Int.reduceEq, Int.reduceNe, Int.reduceAdd, Int.reduceSub, Int.reduceMul, Int.reduceNeg, h1, h2, h3, h4, h5]
  refine cK_t0 en fun t _ => ?_
  try simp only [go_sem, reduceIte, Nat.reduceEqDiff, Nat.reduceAdd, Nat.reduceSub, Nat.reduceMul, Nat.reduceLT, Nat.reduceLeDiff, Nat.reducePow, Int.reduceToNat, Int.reduceLT, Int.reduceLE, Int.reduceEq, Int.reduceNe, Int.reduceAdd, Int.reduceSub, Int.reduceMul, Int.reduceNeg, h1, h2, h3, h4, h5]
  refine cK_vn (d1 _) ?_
  try simp only [go_sem, reduceIte, Nat.reduceEqDiff, Nat.reduceAdd, Nat.reduceSub, Nat.reduceMul, Nat.reduceLT, Nat.reduceLeDiff, Nat.reducePow, Int.reduceToNat, Int.reduceLT, Int.reduceLE, Int.reduceEq, Int.reduceNe, Int.reduceAdd, Int.reduceSub, Int.reduceMul, Int.reduceNeg, h1, h2, h3, h4, h5]
  refine new_any fun b5 h6 => ?_
  simp only [set_none] at h6
  try simp only [go_sem, reduceIte, Nat.reduceEqDiff, Nat.reduceAdd, Nat.reduceSub, Nat.reduceMul, Nat.reduceLT, Nat.reduceLeDiff, Nat.reducePow, Int.reduceToNat, Int.reduceLT, Int.reduceLE, Int.reduceEq, Int.reduceNe, Int.reduceAdd, Int.reduceSub, Int.reduceMul, Int.reduceNeg, h1, h2, h3, h4, h5, h6]
  generalize hβ : Heap.set _ b5 _ = β0
  have e3 : β0 b3 = some [.int .i64 q.op, .int .i64 q.id, .int .i64 q.lo, .int .i64 q.hi, .sl .none (q.set.map Vl.d), .str q.text, .sl .none (q.kids.map Pr.d)] := by rw [← hβ]; simp [Heap.set, h1, h2, h3, h4, h5, h6]
  have e4 : β0 b4 = some [.int .i64 u.rows, .sl .none (u.l.map Bd.d)] := by rw [← hβ]; simp [Heap.set, h1, h2, h3, h4, h5, h6]
  have e5 : β0 b5 = some [.int .i64 u.rows, .sl .none (u.l.map Bd.d)] := by rw [← hβ]; simp [Heap.set]
  clear hβ h1 h2 h3 h4 h5 h6
  refine cK_vn sm ?_
  repeat' (first | simp only [go_sem, reduceIte, Nat.reduceEqDiff, Nat.reduceAdd, Nat.reduceSub, Nat.reduceMul, Nat.reduceLT, Nat.reduceLeDiff, Nat.reducePow, Int.reduceToNat, Int.reduceLT, Int.reduceLE, Int.reduceEq, Int.reduceNe, Int.reduceAdd, Int.reduceSub, Int.reduceMul, Int.reduceNeg, e3, e4, e5] | refine cE_vn m1 ?_ | refine cE_vn m3 ?_ | refine cE_vn m4 ?_ | refine cE_vn nt ?_ | fail)
  refine vwq_loop (fun v => ∃ (j : Nat), j ≤ L.length ∧ v.σ 5 = .bool true ∧ v.σ 7 = .sl .none (L.map rwD) ∧ v.σ 8 = .pb b3 0 ∧ v.σ 13 = .bool may ∧ v.σ 14 = .bool must ∧ v.σ 15 = .bool never ∧ v.σ 16 = .int .i64 j ∧ v.β = β0) (fun v => L.length - (ival (v.σ 16)).toNat) ⟨0, by omega, rfl, rfl, rfl, rfl, rfl, rfl, rfl, rfl⟩ ?_
  rintro σ β ω ⟨j, j1, t5, t7, t8, t13, t14, t15, t16, rfl⟩
  dsimp only at t5 t7 t8 t13 t14 t15 t16 e3 e4 e5
  have hlr : ((L.map rwD).length : Int) = L.length := by rw [List.length_map]
  try simp only [go_sem, reduceIte, Nat.reduceEqDiff, Nat.reduceAdd, Nat.reduceSub, Nat.reduceMul, Nat.reduceLT, Nat.reduceLeDiff, Nat.reducePow, Int.reduceToNat, Int.reduceLT, Int.reduceLE, Int.reduceEq, Int.reduceNe, Int.reduceAdd, Int.reduceSub, Int.reduceMul, Int.reduceNeg, t5, t7, t8, t13, t14, t15, t16, e3, hlr]
  refine cd_dec (fun g => ?_) (fun g => ?_)
  · obtain ⟨r, hr, er⟩ := Rw_at (l := L) (j := j) (by omega)
    have hm := List.mem_of_getElem? hr
    obtain ⟨hu, hs'⟩ := hc0 r hm
    have wj := wrap_i64 (x := (j : Int) + 1) (by omega) (by omega)
    have c1 : ((0 : Int) ≤ j) = True := eq_true (by omega)
    have c2 : ((j : Int) < L.length) = True := eq_true g
    have hev := ev r
    have h012 := evalP_012 r q
    have y1 := q1 hu
    have y3 := q3 hu
    have y4 := q4 hu
    clear m1 m3 m4 nt q1 q3 q4 hc0
    generalize evalP r q = k at hev hs' h012
    generalize possT u q = T at hs' y1 y3 y4
    obtain ⟨ty, tn, tu⟩ := T
    simp only [Tr.turn, Tr.mk.injEq] at y1 y3 y4
    try simp only [go_sem, reduceIte, Nat.reduceEqDiff, Nat.reduceAdd, Nat.reduceSub, Nat.reduceMul, Nat.reduceLT, Nat.reduceLeDiff, Nat.reducePow, Int.reduceToNat, Int.reduceLT, Int.reduceLE, Int.reduceEq, Int.reduceNe, Int.reduceAdd, Int.reduceSub, Int.reduceMul, Int.reduceNeg, t5, t7, t8, t13, t14, t15, t16, e3, hlr, er, c1, c2]
    refine cE_vn hev ?_
    rcases h012 with rfl | rfl | rfl
    · obtain rfl : tn = true := hs'
      simp only [Bool.true_eq_false, false_and, and_false, decide_false] at y3
      subst y3
      clear y1 y4
      cases may <;> cases never
      all_goals repeat' (first | simp only [go_sem, reduceIte, Nat.reduceEqDiff, Nat.reduceAdd, Nat.reduceSub, Nat.reduceMul, Nat.reduceLT, Nat.reduceLeDiff, Nat.reducePow, Int.reduceToNat, Int.reduceLT, Int.reduceLE, Int.reduceEq, Int.reduceNe, Int.reduceAdd, Int.reduceSub, Int.reduceMul, Int.reduceNeg, t5, t7, t8, t13, t14, t15, t16, e3, hlr, wj] | fail)
      all_goals exact ⟨⟨j + 1, by omega, rfl⟩, by omega⟩
    · obtain rfl : ty = true := hs'
      simp only [Bool.true_eq_false, false_and, and_false, decide_false] at y4
      subst y1 y4
      clear y3
      cases must
      all_goals repeat' (first | simp only [go_sem, reduceIte, Nat.reduceEqDiff, Nat.reduceAdd, Nat.reduceSub, Nat.reduceMul, Nat.reduceLT, Nat.reduceLeDiff, Nat.reducePow, Int.reduceToNat, Int.reduceLT, Int.reduceLE, Int.reduceEq, Int.reduceNe, Int.reduceAdd, Int.reduceSub, Int.reduceMul, Int.reduceNeg, t5, t7, t8, t13, t14, t15, t16, e3, hlr, wj] | fail)
      all_goals exact ⟨⟨j + 1, by omega, rfl⟩, by omega⟩
    · obtain rfl : tu = true := hs'
      simp only [Bool.true_eq_false, false_and, and_false, decide_false] at y3 y4
      subst y3 y4
      clear y1
      cases may
      all_goals repeat' (first | simp only [go_sem, reduceIte, Nat.reduceEqDiff, Nat.reduceAdd, Nat.reduceSub, Nat.reduceMul, Nat.reduceLT, Nat.reduceLeDiff, Nat.reducePow, Int.reduceToNat, Int.reduceLT, Int.reduceLE, Int.reduceEq, Int.reduceNe, Int.reduceAdd, Int.reduceSub, Int.reduceMul, Int.reduceNeg, t5, t7, t8, t13, t14, t15, t16, e3, hlr, wj] | fail)
      all_goals exact ⟨⟨j + 1, by omega, rfl⟩, by omega⟩
  · try simp only [go_sem, reduceIte, Nat.reduceEqDiff, Nat.reduceAdd, Nat.reduceSub, Nat.reduceMul, Nat.reduceLT, Nat.reduceLeDiff, Nat.reducePow, Int.reduceToNat, Int.reduceLT, Int.reduceLE, Int.reduceEq, Int.reduceNe, Int.reduceAdd, Int.reduceSub, Int.reduceMul, Int.reduceNeg, t5, t7, t8, t13, t14, t15, t16, e3, hlr]
    exact finK_drop ⟨rfl, rfl, rfl⟩
end Go.Proofs.YtnoenipdooackaaGreatDoorS
