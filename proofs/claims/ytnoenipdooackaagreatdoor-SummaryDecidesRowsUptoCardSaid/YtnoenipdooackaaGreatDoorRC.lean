import Derived.Test.YtnoenipdooackaaGreatDoorRB
set_option linter.unusedVariables false
set_option linter.unusedSimpArgs false
namespace Go.Proofs.YtnoenipdooackaaGreatDoorS
open Go Go.Proofs.YtnoenipdooackaaGreatDoorV

variable {G : Heap}
attribute [local irreducible] VN VC VX VQ VT0

def isPr (d : D) : Prop := ∃ q : Pr, d = .agg q.cells ∧ q.Lim
theorem Pr.Lim.leaf {a b c d : Int} {s : List Vl} {t : ByteArray} : (Pr.mk a b c d s t []).Lim := .mk _ (by simp [Pr.kids]) (by simp [Pr.kids])
theorem isPr_any : ∃ d, isPr d := ⟨_, .mk 0 0 0 0 [] ByteArray.empty [], rfl, .leaf⟩
set_option maxHeartbeats 4000000 in
theorem atomR_ok (p : Pr) (f : Fd) (hp : ∀ v ∈ p.set, I64 v.n) : VX P G 50 [.agg p.cells, .agg (fdC f)] isPr := by
  have hc := clean_ok (G := G) p.set f.type hp
  simp only [Pr.cells, fdC]
  unfold VX
  refine VC.ofc (fun | 7 => [(0, []), (1, []), (2, []), (3, []), (4, []), (5, []), (6, []), (7, []), (8, []), (9, []), (10, [])] | 99999999 => [(0, [0, 1, 2, 3, 4, 5, 11, 28, 36])] | _ => []) [.cell 4 29] mixed Tryz.func50 rfl rfl rfl rfl (by decide +kernel) (by simp) ?_
  simp only [go_sem, reduceIte, Nat.reduceEqDiff, Nat.reduceAdd, Nat.reduceSub, Nat.reduceMul, Nat.reduceLT, Nat.reduceLeDiff, Nat.reducePow, Int.reduceToNat, Int.reduceLT, Int.reduceLE, Int.reduceEq, Int.reduceNe, Int.reduceAdd, Int.reduceSub, Int.reduceMul, Int.reduceNeg]
  intro b0
  refine new_1 fun b1 h1 h2 => ?_
  refine new_2 fun b2 h3 h4 h5 => ?_
  try simp only [go_sem, reduceIte, Nat.reduceEqDiff, Nat.reduceAdd, Nat.reduceSub, Nat.reduceMul, Nat.reduceLT, Nat.reduceLeDiff, Nat.reducePow, Int.reduceToNat, Int.reduceLT, Int.reduceLE, Int.reduceEq, Int.reduceNe, Int.reduceAdd, Int.reduceSub, Int.reduceMul, Int.reduceNeg, h1, h2, h3, h4, h5]
  refine cK_vx hc ?_
  rintro _ ⟨m, rfl, hm⟩
  try simp only [go_sem, reduceIte, Nat.reduceEqDiff, Nat.reduceAdd, Nat.reduceSub, Nat.reduceMul, Nat.reduceLT, Nat.reduceLeDiff, Nat.reducePow, Int.reduceToNat, Int.reduceLT, Int.reduceLE, Int.reduceEq, Int.reduceNe, Int.reduceAdd, Int.reduceSub, Int.reduceMul, Int.reduceNeg, h1, h2, h3, h4, h5]
  refine ⟨fun h => ⟨h, fun h2 => ⟨h, h2⟩⟩, cd_dec (fun _ => ?_) (fun _ => ?_)⟩
  · try simp only [go_sem, reduceIte, Nat.reduceEqDiff, Nat.reduceAdd, Nat.reduceSub, Nat.reduceMul, Nat.reduceLT, Nat.reduceLeDiff, Nat.reducePow, Int.reduceToNat, Int.reduceLT, Int.reduceLE, Int.reduceEq, Int.reduceNe, Int.reduceAdd, Int.reduceSub, Int.reduceMul, Int.reduceNeg, h1, h2, h3, h4, h5]
    exact finK_drop ⟨_, ⟨.mk 4 f.id 0 0 [] ByteArray.empty [], rfl, .leaf⟩, rfl, rfl, rfl⟩
  try simp only [go_sem, reduceIte, Nat.reduceEqDiff, Nat.reduceAdd, Nat.reduceSub, Nat.reduceMul, Nat.reduceLT, Nat.reduceLeDiff, Nat.reducePow, Int.reduceToNat, Int.reduceLT, Int.reduceLE, Int.reduceEq, Int.reduceNe, Int.reduceAdd, Int.reduceSub, Int.reduceMul, Int.reduceNeg, h1, h2, h3, h4, h5]
  refine cd_dec (fun _ => ?_) (fun _ => ?_)
  · try simp only [go_sem, reduceIte, Nat.reduceEqDiff, Nat.reduceAdd, Nat.reduceSub, Nat.reduceMul, Nat.reduceLT, Nat.reduceLeDiff, Nat.reducePow, Int.reduceToNat, Int.reduceLT, Int.reduceLE, Int.reduceEq, Int.reduceNe, Int.reduceAdd, Int.reduceSub, Int.reduceMul, Int.reduceNeg, h1, h2, h3, h4, h5]
    exact finK_drop ⟨_, ⟨.mk 2 f.id 0 0 m ByteArray.empty [], rfl, .leaf⟩, rfl, rfl, rfl⟩
  try simp only [go_sem, reduceIte, Nat.reduceEqDiff, Nat.reduceAdd, Nat.reduceSub, Nat.reduceMul, Nat.reduceLT, Nat.reduceLeDiff, Nat.reducePow, Int.reduceToNat, Int.reduceLT, Int.reduceLE, Int.reduceEq, Int.reduceNe, Int.reduceAdd, Int.reduceSub, Int.reduceMul, Int.reduceNeg, h1, h2, h3, h4, h5]
  refine cd_dec (fun _ => ?_) (fun _ => ?_)
  · try simp only [go_sem, reduceIte, Nat.reduceEqDiff, Nat.reduceAdd, Nat.reduceSub, Nat.reduceMul, Nat.reduceLT, Nat.reduceLeDiff, Nat.reducePow, Int.reduceToNat, Int.reduceLT, Int.reduceLE, Int.reduceEq, Int.reduceNe, Int.reduceAdd, Int.reduceSub, Int.reduceMul, Int.reduceNeg, h1, h2, h3, h4, h5]
    refine ⟨⟨by split <;> omega, by split <;> omega⟩, finK_drop ⟨_, ⟨.mk 3 f.id 0 0 [] _ [], rfl, .leaf⟩, rfl, rfl, rfl⟩⟩
  try simp only [go_sem, reduceIte, Nat.reduceEqDiff, Nat.reduceAdd, Nat.reduceSub, Nat.reduceMul, Nat.reduceLT, Nat.reduceLeDiff, Nat.reducePow, Int.reduceToNat, Int.reduceLT, Int.reduceLE, Int.reduceEq, Int.reduceNe, Int.reduceAdd, Int.reduceSub, Int.reduceMul, Int.reduceNeg, h1, h2, h3, h4, h5]
  exact finK_drop ⟨_, ⟨.mk 1 f.id p.lo p.hi [] ByteArray.empty [], rfl, .leaf⟩, rfl, rfl, rfl⟩
/-- The numbers of a predicate are in range. -/
inductive Pr.I : Pr → Prop where
  | mk (p : Pr) : I64 p.op → I64 p.id → I64 p.lo → I64 p.hi → (∀ v ∈ p.set, I64 v.n) → (∀ k ∈ p.kids, Pr.I k) → Pr.I p
set_option maxHeartbeats 8000000 in
theorem madeR_step (L : List Fd) (zl : L.length ≤ 64) (p : Pr) (d : Int) (hd : 0 ≤ d ∧ d ≤ 8) (hp : ∀ v ∈ p.set, I64 v.n) (z3 : p.kids.length ≤ 1048576) (ih : ∀ k ∈ p.kids, ∀ e : Int, 0 ≤ e ∧ e ≤ 8 → VX P G 25 [.sl .none (L.map fdD), .agg k.cells, .int .i64 e] isPr) :
    VX P G 25 [.sl .none (L.map fdD), .agg p.cells, .int .i64 d] isPr := by
  have hx : VX P G 49 [.int .i64 p.op, .int .i64 8] (isIx 8) := index_ok p.op 8 (by omega) (by omega)
  have hlr : ((L.map fdD).length : Int) = L.length := by rw [List.length_map]
  simp only [Pr.cells]
  unfold VX
  refine VC.ofc (fun | 7 => [(0, [6]), (1, []), (2, []), (3, []), (4, []), (5, []), (6, []), (7, []), (8, []), (9, []), (10, [])] | 13 => [(0, []), (1, [10]), (2, []), (3, []), (4, []), (5, []), (6, []), (7, []), (8, []), (9, []), (10, []), (11, []), (12, []), (13, []), (14, [])] | 99999999 => [(0, [0, 1, 2, 4, 6, 7, 8, 9, 10, 32, 35, 59, 67, 89])] | _ => []) [.cell 6 29] mixed Tryz.func25 rfl rfl rfl rfl (by decide +kernel) (by simp) ?_
  simp only [go_sem, reduceIte, Nat.reduceEqDiff, Nat.reduceAdd, Nat.reduceSub, Nat.reduceMul, Nat.reduceLT, Nat.reduceLeDiff, Nat.reducePow, Int.reduceToNat, Int.reduceLT, Int.reduceLE, Int.reduceEq, Int.reduceNe, Int.reduceAdd, Int.reduceSub, Int.reduceMul, Int.reduceNeg]
  intro b0
  refine new_1 fun b1 h1 h2 => ?_
  try simp only [go_sem, reduceIte, Nat.reduceEqDiff, Nat.reduceAdd, Nat.reduceSub, Nat.reduceMul, Nat.reduceLT, Nat.reduceLeDiff, Nat.reducePow, Int.reduceToNat, Int.reduceLT, Int.reduceLE, Int.reduceEq, Int.reduceNe, Int.reduceAdd, Int.reduceSub, Int.reduceMul, Int.reduceNeg, h1, h2]
  refine cK_vx hx ?_
  rintro _ ⟨r, rfl, hr⟩
  try simp only [go_sem, reduceIte, Nat.reduceEqDiff, Nat.reduceAdd, Nat.reduceSub, Nat.reduceMul, Nat.reduceLT, Nat.reduceLeDiff, Nat.reducePow, Int.reduceToNat, Int.reduceLT, Int.reduceLE, Int.reduceEq, Int.reduceNe, Int.reduceAdd, Int.reduceSub, Int.reduceMul, Int.reduceNeg, h1, h2, hlr]
  refine ⟨fun h => ⟨h, fun h2 => ⟨h, h2⟩⟩, fun h => ⟨h, fun h2 => ⟨h, h2⟩⟩, cd_dec (fun g => ?_) (fun g => ?_)⟩
  · try simp only [go_sem, reduceIte, Nat.reduceEqDiff, Nat.reduceAdd, Nat.reduceSub, Nat.reduceMul, Nat.reduceLT, Nat.reduceLeDiff, Nat.reducePow, Int.reduceToNat, Int.reduceLT, Int.reduceLE, Int.reduceEq, Int.reduceNe, Int.reduceAdd, Int.reduceSub, Int.reduceMul, Int.reduceNeg, h1, h2, hlr]
    exact finK_drop ⟨_, ⟨.mk 0 0 0 0 [] ByteArray.empty [], rfl, .leaf⟩, rfl, rfl, rfl⟩
  try simp only [go_sem, reduceIte, Nat.reduceEqDiff, Nat.reduceAdd, Nat.reduceSub, Nat.reduceMul, Nat.reduceLT, Nat.reduceLeDiff, Nat.reducePow, Int.reduceToNat, Int.reduceLT, Int.reduceLE, Int.reduceEq, Int.reduceNe, Int.reduceAdd, Int.reduceSub, Int.reduceMul, Int.reduceNeg, h1, h2, hlr]
  refine cd_dec (fun g5 => ?_) (fun g5 => ?_)
  · try simp only [go_sem, reduceIte, Nat.reduceEqDiff, Nat.reduceAdd, Nat.reduceSub, Nat.reduceMul, Nat.reduceLT, Nat.reduceLeDiff, Nat.reducePow, Int.reduceToNat, Int.reduceLT, Int.reduceLE, Int.reduceEq, Int.reduceNe, Int.reduceAdd, Int.reduceSub, Int.reduceMul, Int.reduceNeg, h1, h2, hlr]
    refine new_2 fun b2 h3 h4 h5 => ?_
    try simp only [go_sem, reduceIte, Nat.reduceEqDiff, Nat.reduceAdd, Nat.reduceSub, Nat.reduceMul, Nat.reduceLT, Nat.reduceLeDiff, Nat.reducePow, Int.reduceToNat, Int.reduceLT, Int.reduceLE, Int.reduceEq, Int.reduceNe, Int.reduceAdd, Int.reduceSub, Int.reduceMul, Int.reduceNeg, h1, h2, h3, h4, h5, hlr]
    have zl1 : 0 < L.length := by omega
    refine cE_vx (index_ok p.id L.length zl1 (by omega)) ⟨_, 0, rfl, zl1⟩ ?_
    rintro _ ⟨i, rfl, hi⟩
    obtain ⟨f, hf, ef⟩ := Fd_at (l := L) (j := i) hi
    have c1 : ((0 : Int) ≤ i) = True := eq_true (by omega)
    have c2 : ((i : Int) < L.length) = True := eq_true (by omega)
    have ha : VX P G 50 [.agg [.int .i64 r, .int .i64 p.id, .int .i64 p.lo, .int .i64 p.hi, .sl .none (p.set.map Vl.d), .str p.text, .sl .none (p.kids.map Pr.d)], .agg [.int .i64 f.id, .str f.name, .int .i64 f.type, .int .i64 f.parent]] isPr := atomR_ok (.mk r p.id p.lo p.hi p.set p.text p.kids) f hp
    try simp only [go_sem, reduceIte, Nat.reduceEqDiff, Nat.reduceAdd, Nat.reduceSub, Nat.reduceMul, Nat.reduceLT, Nat.reduceLeDiff, Nat.reducePow, Int.reduceToNat, Int.reduceLT, Int.reduceLE, Int.reduceEq, Int.reduceNe, Int.reduceAdd, Int.reduceSub, Int.reduceMul, Int.reduceNeg, h1, h2, h3, h4, h5, hlr, ef, c1, c2]
    refine cE_vx ha isPr_any ?_
    rintro _ ⟨q, rfl, qL⟩
    try simp only [go_sem, reduceIte, Nat.reduceEqDiff, Nat.reduceAdd, Nat.reduceSub, Nat.reduceMul, Nat.reduceLT, Nat.reduceLeDiff, Nat.reducePow, Int.reduceToNat, Int.reduceLT, Int.reduceLE, Int.reduceEq, Int.reduceNe, Int.reduceAdd, Int.reduceSub, Int.reduceMul, Int.reduceNeg, h1, h2, h3, h4, h5, hlr, Pr.cells]
    refine ⟨(show ¬ rdAdd _ _ _ _ _ from by simp [rdAdd, h1, h2, h3, h4, h5]), ?_⟩
    exact finK_drop ⟨_, ⟨q, rfl, qL⟩, rfl, rfl, rfl⟩
  · try simp only [go_sem, reduceIte, Nat.reduceEqDiff, Nat.reduceAdd, Nat.reduceSub, Nat.reduceMul, Nat.reduceLT, Nat.reduceLeDiff, Nat.reducePow, Int.reduceToNat, Int.reduceLT, Int.reduceLE, Int.reduceEq, Int.reduceNe, Int.reduceAdd, Int.reduceSub, Int.reduceMul, Int.reduceNeg, h1, h2, hlr]
    refine new_2 fun b2 h3 h4 h5 => ?_
    try simp only [go_sem, reduceIte, Nat.reduceEqDiff, Nat.reduceAdd, Nat.reduceSub, Nat.reduceMul, Nat.reduceLT, Nat.reduceLeDiff, Nat.reducePow, Int.reduceToNat, Int.reduceLT, Int.reduceLE, Int.reduceEq, Int.reduceNe, Int.reduceAdd, Int.reduceSub, Int.reduceMul, Int.reduceNeg, h1, h2, h3, h4, h5, hlr]
    generalize hβ : Heap.set _ b2 _ = β0
    have e0 : β0 b0 = some [.int .i64 p.op, .int .i64 p.id, .int .i64 p.lo, .int .i64 p.hi, .sl .none (p.set.map Vl.d), .str p.text, .sl .none (p.kids.map Pr.d)] := by rw [← hβ]; simp [Heap.set, h1, h2, h3, h4, h5]
    have e1 : β0 b1 = some [.int .i64 0, .int .i64 0, .int .i64 0, .int .i64 0, .sl .full [], .str ByteArray.empty, .sl .full []] := by rw [← hβ]; simp [Heap.set, h1, h2, h3, h4, h5]
    have e2 : β0 b2 = some [.int .i64 r, .int .i64 0, .int .i64 0, .int .i64 0, .sl .full [], .str ByteArray.empty, .sl .full []] := by rw [← hβ]; simp [Heap.set]
    clear hβ
    have wd := wrap_i64 (x := d - 1) (by omega) (by omega)
    refine vwq_loop (fun v => ∃ (j : Nat) (ks : List Pr) (tk : Tk), j ≤ p.kids.length ∧ j ≤ 16 ∧ ks.length ≤ j ∧ (∀ k ∈ ks, k.Lim) ∧ TW 7 tk v.ω ∧ v.σ 0 = .sl .none (L.map fdD) ∧ v.σ 2 = .int .i64 d ∧ v.σ 4 = .pb b0 0 ∧ v.σ 6 = .pb b1 0 ∧ v.σ 7 = .int .i64 r ∧ v.σ 9 = .pb b2 0 ∧ v.σ 10 = .int .i64 j ∧
      v.β b0 = some [.int .i64 p.op, .int .i64 p.id, .int .i64 p.lo, .int .i64 p.hi, .sl .none (p.set.map Vl.d), .str p.text, .sl .none (p.kids.map Pr.d)] ∧ v.β b1 = some [.int .i64 0, .int .i64 0, .int .i64 0, .int .i64 0, .sl .full [], .str ByteArray.empty, .sl .full []] ∧ v.β b2 = some [.int .i64 r, .int .i64 0, .int .i64 0, .int .i64 0, .sl .full [], .str ByteArray.empty, .sl tk (ks.map Pr.d)]) (fun v => p.kids.length - (ival (v.σ 10)).toNat) ⟨0, [], .full, by omega, by omega, by simp, by simp, TW.full 7, rfl, rfl, rfl, rfl, rfl, rfl, rfl, e0, e1, e2⟩ ?_
    clear e0 e1 e2 β0
    rintro σ β ω ⟨j, ks, tk, j1, j2, j3, hks, hw, q0, q2, q4, q6, q7, q9, q10, e0, e1, e2⟩
    dsimp only at hw q0 q2 q4 q6 q7 q9 q10 e0 e1 e2
    have ho := hw.ok
    have hg := hw.gone
    try simp only [go_sem, reduceIte, Nat.reduceEqDiff, Nat.reduceAdd, Nat.reduceSub, Nat.reduceMul, Nat.reduceLT, Nat.reduceLeDiff, Nat.reducePow, Int.reduceToNat, Int.reduceLT, Int.reduceLE, Int.reduceEq, Int.reduceNe, Int.reduceAdd, Int.reduceSub, Int.reduceMul, Int.reduceNeg, q0, q2, q4, q6, q7, q9, q10, e0, e1, e2]
    refine cd_dec (fun gg => ?_) (fun gg => ?_)
    · obtain ⟨gg, gg2⟩ := gg
      obtain ⟨k, hk, ek⟩ := Pr_at (l := p.kids) (j := j) gg
      have g1 := eq_true gg
      rw [List.length_map] at gg
      have wj := wrap_i64 (x := (j : Int) + 1) (by omega) (by omega)
      have c1 : ((0 : Int) ≤ j) = True := eq_true (by omega)
      have hk' := ih k (List.mem_of_getElem? hk) (d - 1) (by omega)
      simp only [Pr.cells] at hk'
      try simp only [go_sem, reduceIte, Nat.reduceEqDiff, Nat.reduceAdd, Nat.reduceSub, Nat.reduceMul, Nat.reduceLT, Nat.reduceLeDiff, Nat.reducePow, Int.reduceToNat, Int.reduceLT, Int.reduceLE, Int.reduceEq, Int.reduceNe, Int.reduceAdd, Int.reduceSub, Int.reduceMul, Int.reduceNeg, q0, q2, q4, q6, q7, q9, q10, e0, e1, e2, ek, g1, c1]
      refine cd_dec (fun g7 => ?_) (fun g7 => ?_)
      · try simp only [go_sem, reduceIte, Nat.reduceEqDiff, Nat.reduceAdd, Nat.reduceSub, Nat.reduceMul, Nat.reduceLT, Nat.reduceLeDiff, Nat.reducePow, Int.reduceToNat, Int.reduceLT, Int.reduceLE, Int.reduceEq, Int.reduceNe, Int.reduceAdd, Int.reduceSub, Int.reduceMul, Int.reduceNeg, q0, q2, q4, q6, q7, q9, q10, e0, e1, e2]
        refine cd_dec (fun g8 => ?_) (fun g8 => ?_)
        · try simp only [go_sem, reduceIte, Nat.reduceEqDiff, Nat.reduceAdd, Nat.reduceSub, Nat.reduceMul, Nat.reduceLT, Nat.reduceLeDiff, Nat.reducePow, Int.reduceToNat, Int.reduceLT, Int.reduceLE, Int.reduceEq, Int.reduceNe, Int.reduceAdd, Int.reduceSub, Int.reduceMul, Int.reduceNeg, q0, q2, q4, q6, q7, q9, q10, e0, e1, e2, h3, h4, h5]
          refine finK_drop ⟨_, ?_, rfl, rfl, rfl⟩
          refine ⟨.mk r 0 0 0 [] ByteArray.empty [.mk 0 0 0 0 [] ByteArray.empty []], ?_, .mk _ (by simp [Pr.kids]) (by simp [Pr.kids, Pr.Lim.leaf])⟩
          simp only [D.er, D.er1, Pr.cells, Pr.op, Pr.id, Pr.lo, Pr.hi, Pr.set, Pr.text, Pr.kids, List.map_cons, List.map_nil, Pr.d_eq]
        · try simp only [go_sem, reduceIte, Nat.reduceEqDiff, Nat.reduceAdd, Nat.reduceSub, Nat.reduceMul, Nat.reduceLT, Nat.reduceLeDiff, Nat.reducePow, Int.reduceToNat, Int.reduceLT, Int.reduceLE, Int.reduceEq, Int.reduceNe, Int.reduceAdd, Int.reduceSub, Int.reduceMul, Int.reduceNeg, q0, q2, q4, q6, q7, q9, q10, e0, e1, e2]
          exact finK_drop ⟨_, ⟨.mk r 0 0 0 [] ByteArray.empty ks, rfl, .mk _ (by simp only [Pr.kids]; omega) hks⟩, rfl, rfl, rfl⟩
      · try simp only [go_sem, reduceIte, Nat.reduceEqDiff, Nat.reduceAdd, Nat.reduceSub, Nat.reduceMul, Nat.reduceLT, Nat.reduceLeDiff, Nat.reducePow, Int.reduceToNat, Int.reduceLT, Int.reduceLE, Int.reduceEq, Int.reduceNe, Int.reduceAdd, Int.reduceSub, Int.reduceMul, Int.reduceNeg, q0, q2, q4, q6, q7, q9, q10, e0, e1, e2, ek, g1, c1, wd]
        refine cE_vx hk' isPr_any ?_
        rintro _ ⟨q, rfl, qL⟩
        try simp only [go_sem, reduceIte, Nat.reduceEqDiff, Nat.reduceAdd, Nat.reduceSub, Nat.reduceMul, Nat.reduceLT, Nat.reduceLeDiff, Nat.reducePow, Int.reduceToNat, Int.reduceLT, Int.reduceLE, Int.reduceEq, Int.reduceNe, Int.reduceAdd, Int.reduceSub, Int.reduceMul, Int.reduceNeg, q0, q2, q4, q6, q7, q9, q10, e0, e1, e2, ek, g1, c1, wd, ho, hg, Pr.cells]
        refine ⟨fun x hx => by obtain ⟨y, _, rfl⟩ := List.mem_map.1 hx; rw [y.d_eq]; rfl, by rw [List.length_map]; omega, fun t' _ => ⟨by simp [rdAdd], ⟨j + 1, ks ++ [q], .live t' 7, ?_⟩, by omega⟩⟩
        refine ⟨by omega, by omega, by simp; omega, fun k hk => ?_, TW.live 7 t', by rw [wj]; rfl, by simp [h3, h4, h5, e0], by simp [h3, h4, h5, e1], by simp [Pr.cells, Pr.d_eq]⟩
        rcases List.mem_append.1 hk with hk | hk
        · exact hks k hk
        · simp at hk; subst hk; exact qL
    · try simp only [go_sem, reduceIte, Nat.reduceEqDiff, Nat.reduceAdd, Nat.reduceSub, Nat.reduceMul, Nat.reduceLT, Nat.reduceLeDiff, Nat.reducePow, Int.reduceToNat, Int.reduceLT, Int.reduceLE, Int.reduceEq, Int.reduceNe, Int.reduceAdd, Int.reduceSub, Int.reduceMul, Int.reduceNeg, q0, q2, q4, q6, q7, q9, q10, e0, e1, e2]
      refine cd_dec (fun g8 => ?_) (fun g8 => ?_)
      · try simp only [go_sem, reduceIte, Nat.reduceEqDiff, Nat.reduceAdd, Nat.reduceSub, Nat.reduceMul, Nat.reduceLT, Nat.reduceLeDiff, Nat.reducePow, Int.reduceToNat, Int.reduceLT, Int.reduceLE, Int.reduceEq, Int.reduceNe, Int.reduceAdd, Int.reduceSub, Int.reduceMul, Int.reduceNeg, q0, q2, q4, q6, q7, q9, q10, e0, e1, e2, h3, h4, h5]
        refine finK_drop ⟨_, ?_, rfl, rfl, rfl⟩
        refine ⟨.mk r 0 0 0 [] ByteArray.empty [.mk 0 0 0 0 [] ByteArray.empty []], ?_, .mk _ (by simp [Pr.kids]) (by simp [Pr.kids, Pr.Lim.leaf])⟩
        simp only [D.er, D.er1, Pr.cells, Pr.op, Pr.id, Pr.lo, Pr.hi, Pr.set, Pr.text, Pr.kids, List.map_cons, List.map_nil, Pr.d_eq]
      · try simp only [go_sem, reduceIte, Nat.reduceEqDiff, Nat.reduceAdd, Nat.reduceSub, Nat.reduceMul, Nat.reduceLT, Nat.reduceLeDiff, Nat.reducePow, Int.reduceToNat, Int.reduceLT, Int.reduceLE, Int.reduceEq, Int.reduceNe, Int.reduceAdd, Int.reduceSub, Int.reduceMul, Int.reduceNeg, q0, q2, q4, q6, q7, q9, q10, e0, e1, e2]
        exact finK_drop ⟨_, ⟨.mk r 0 0 0 [] ByteArray.empty ks, rfl, .mk _ (by simp only [Pr.kids]; omega) hks⟩, rfl, rfl, rfl⟩
theorem madeR_ok (L : List Fd) (zl : L.length ≤ 64) : ∀ (n : Nat) (p : Pr), SizeOf.sizeOf p ≤ n → p.Lim → p.I → ∀ d : Int, 0 ≤ d ∧ d ≤ 8 → VX P G 25 [.sl .none (L.map fdD), .agg p.cells, .int .i64 d] isPr
  | 0, p, h, _, _, _, _ => by cases p; simp at h
  | n + 1, p, hn, hL, hO, d, hd => by
    obtain ⟨_, z3, hk⟩ := hL
    obtain ⟨_, _, _, _, _, o1, o2⟩ := hO
    exact madeR_step L zl p d hd o1 z3 fun k hk' e he => madeR_ok L zl n k (Nat.le_of_lt_succ (Nat.lt_of_lt_of_le (Pr.kid_lt (p := p) hk') hn)) (hk k hk') (o2 k hk') e he
theorem MadeR_ok (fs : List Fd) (nx : Int) (z : fs.length ≤ 64) (p : Pr) (hL : p.Lim) (hO : p.I) : VX P G 7 [.agg [.sl .none (fs.map fdD), .int .i64 nx], .agg p.cells] isPr := by
  have hl := leavesR_ok (G := G) fs nx z
  have hm : ∀ L : List Fd, L.length ≤ 64 → VX P G 25 [.sl .none (L.map fdD), .agg p.cells, .int .i64 8] isPr := fun L h => madeR_ok L h _ p (Nat.le_refl _) hL hO 8 (by omega)
  simp only [Pr.cells] at hm ⊢
  unfold VX
  refine VC.ofc (fun | 1 => [(0, []), (2, [1]), (1, []), (3, []), (4, [])] | 99999999 => [(0, [0, 1, 2, 3, 4])] | _ => []) [.cell 4 29] mixed Tryz.func7 rfl rfl rfl rfl (by decide +kernel) (by simp) ?_
  simp only [go_sem, reduceIte, Nat.reduceEqDiff, Nat.reduceAdd, Nat.reduceSub, Nat.reduceMul, Nat.reduceLT, Nat.reduceLeDiff, Nat.reducePow, Int.reduceToNat, Int.reduceLT, Int.reduceLE, Int.reduceEq, Int.reduceNe, Int.reduceAdd, Int.reduceSub, Int.reduceMul, Int.reduceNeg]
  intro b0
  refine new_1 fun b1 h1 h2 => ?_
  refine new_2 fun b2 h3 h4 h5 => ?_
  try simp only [go_sem, reduceIte, Nat.reduceEqDiff, Nat.reduceAdd, Nat.reduceSub, Nat.reduceMul, Nat.reduceLT, Nat.reduceLeDiff, Nat.reducePow, Int.reduceToNat, Int.reduceLT, Int.reduceLE, Int.reduceEq, Int.reduceNe, Int.reduceAdd, Int.reduceSub, Int.reduceMul, Int.reduceNeg, h1, h2, h3, h4, h5]
  refine cE_vx hl ⟨_, [], rfl, by simp⟩ ?_
  rintro _ ⟨L, rfl, hL64⟩
  try simp only [go_sem, reduceIte, Nat.reduceEqDiff, Nat.reduceAdd, Nat.reduceSub, Nat.reduceMul, Nat.reduceLT, Nat.reduceLeDiff, Nat.reducePow, Int.reduceToNat, Int.reduceLT, Int.reduceLE, Int.reduceEq, Int.reduceNe, Int.reduceAdd, Int.reduceSub, Int.reduceMul, Int.reduceNeg, h1, h2, h3, h4, h5]
  refine cE_vx (hm L hL64) isPr_any ?_
  rintro _ ⟨q, rfl, qL⟩
  try simp only [go_sem, reduceIte, Nat.reduceEqDiff, Nat.reduceAdd, Nat.reduceSub, Nat.reduceMul, Nat.reduceLT, Nat.reduceLeDiff, Nat.reducePow, Int.reduceToNat, Int.reduceLT, Int.reduceLE, Int.reduceEq, Int.reduceNe, Int.reduceAdd, Int.reduceSub, Int.reduceMul, Int.reduceNeg, h1, h2, h3, h4, h5, Pr.cells]
  refine ⟨(show ¬ rdAdd _ _ _ _ _ from by simp [rdAdd, h1, h2, h3, h4, h5]), ?_⟩
  exact finK_drop ⟨_, ⟨q, rfl, qL⟩, rfl, rfl, rfl⟩
end Go.Proofs.YtnoenipdooackaaGreatDoorS
