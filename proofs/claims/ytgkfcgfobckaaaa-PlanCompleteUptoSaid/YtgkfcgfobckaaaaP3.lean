import Derived.Test.YtgkfcgfobckaaaaP2
set_option linter.unusedVariables false
set_option linter.unusedSimpArgs false
namespace Go.Proofs.YtgkfcgfobckaaaaS
open Go Go.Proofs.YtgkfcgfobckaaaaV

variable {G : Heap}
attribute [local irreducible] VN VC VX VQ

section
variable {β β0 : Heap} {ω : List Nat} {f : FuncId} {args : List D} {ops : Array Oper} {rest : List Oper} {es : List Ent} {Q : VE → St → Prop} {dst : Option Tmp} {σ : Sg} {Φ : Out → Heap → List Nat → Prop} {d : D} {U : List Nat} {i : Nat} {rd : Rd}
theorem joinH_self (h : ∀ b cs, β0 b = some cs → β b = some cs) : joinH β β0 β0 = β := by
  funext b
  unfold joinH
  cases e : β0 b with
  | none => simp
  | some c => simp [h b c e]
/-- A function that only reads some variables. -/
theorem cE_ro (h : VC P G f args β0 [] fun o β ω => o = .ret d ∧ β = β0 ∧ ω = []) (hp : ∀ b cs, β0 b = some cs → β b = some cs) (hr : ∀ b, rd i b → β0 b = none) (hf : Fini β0) (hk : Kd P G ops es Q dst σ d rd β ω) : cE P G U i (.clo (.func f) [] []) True args rd β ω ops es Q dst σ :=
  callE_vc h ⟨hp, fun t ht => (List.not_mem_nil ht).elim⟩ hr
    (fun _ N => ⟨d, β0, [], ⟨rfl, rfl, rfl⟩, hf, fun b hb1 hb2 => absurd hb2 hb1, fun t ht => by simp at ht⟩)
    (fun d' β' ω' ⟨β1, ω1, ⟨h1, h2, h3⟩, _, _, h4, h5⟩ => by
      cases h1; subst h2 h3 h4 h5
      rw [joinH_self hp]
      simpa using hk) (fun d' β' ω' ⟨β1, ω1, ⟨h1, h2, h3⟩, _, _, h4, h5⟩ => by cases h1)
end
def cmp2 (a1 a2 b1 b2 : Int) : Int := if cmpN a1 b1 ≠ 0 then cmpN a1 b1 else cmpN a2 b2
theorem sCompare_ok (x y : Nat) (hxy : x ≠ y) (a1 a2 b1 b2 : Int) : VC P G 53 [.so x 0 2 2, .so y 0 2 2] ((Heap.nil.set x [.int .i64 a1, .int .i64 a2]).set y [.int .i64 b1, .int .i64 b2]) [] fun o β ω => o = .ret (.int .i64 (cmp2 a1 a2 b1 b2)) ∧ β = (Heap.nil.set x [.int .i64 a1, .int .i64 a2]).set y [.int .i64 b1, .int .i64 b2] ∧ ω = [] := by
  generalize hβ : (Heap.nil.set x [.int .i64 a1, .int .i64 a2]).set y [.int .i64 b1, .int .i64 b2] = β0
  have e1 : β0 x = some [.int .i64 a1, .int .i64 a2] := by rw [← hβ]; simp [Heap.set, hxy]
  have e2 : β0 y = some [.int .i64 b1, .int .i64 b2] := by rw [← hβ]; simp [Heap.set]
  clear hβ
  refine VC.ofs (fun | 99999999 => [(0, [0, 1, 4, 5, 6, 7, 8, 9, 10, 11, 12, 19, 28, 35])] | _ => []) [4] mixed Try.func53 rfl rfl rfl rfl (by decide +kernel) (by simp) ?_
  simp only [go_sem, reduceIte, Nat.reduceEqDiff, Nat.reduceAdd, Nat.reduceSub, Nat.reduceMul, Nat.reduceLT, Nat.reduceLeDiff, Nat.reducePow, Int.reduceToNat, Int.reduceLT, Int.reduceLE, Int.reduceEq, Int.reduceNe, Int.reduceAdd, Int.reduceSub, Int.reduceMul, Int.reduceNeg]
  refine vwq_loop (fun v => ∃ (j : Nat), j ≤ 2 ∧ (0 < j → cmpN a1 b1 = 0) ∧ (1 < j → cmpN a2 b2 = 0) ∧ v.σ 0 = .so x 0 2 2 ∧ v.σ 1 = .so y 0 2 2 ∧ v.σ 9 = .so x 0 2 2 ∧ v.σ 10 = .int .i64 2 ∧ v.σ 11 = .int .i64 j ∧ v.β = β0 ∧ v.ω = []) (fun v => 2 - (ival (v.σ 11)).toNat) ⟨0, by omega, by omega, by omega, rfl, rfl, rfl, rfl, rfl, rfl, rfl⟩ ?_
  rintro σ β ω ⟨j, hj, hj1, hj2, q0, q1, q9, q10, q11, rfl, rfl⟩
  dsimp only at q0 q1 q9 q10 q11 e1 e2
  have hc1 := cmpI_ok (G := G) a1 b1
  have hc2 := cmpI_ok (G := G) a2 b2
  obtain rfl | rfl | rfl : j = 0 ∨ j = 1 ∨ j = 2 := by omega
  · try simp only [go_sem, reduceIte, Nat.reduceEqDiff, Nat.reduceAdd, Nat.reduceSub, Nat.reduceMul, Nat.reduceLT, Nat.reduceLeDiff, Nat.reducePow, Int.reduceToNat, Int.reduceLT, Int.reduceLE, Int.reduceEq, Int.reduceNe, Int.reduceAdd, Int.reduceSub, Int.reduceMul, Int.reduceNeg, q0, q1, q9, q10, q11, e1, e2]
    refine cK_vn hc1 ?_
    try simp only [go_sem, reduceIte, Nat.reduceEqDiff, Nat.reduceAdd, Nat.reduceSub, Nat.reduceMul, Nat.reduceLT, Nat.reduceLeDiff, Nat.reducePow, Int.reduceToNat, Int.reduceLT, Int.reduceLE, Int.reduceEq, Int.reduceNe, Int.reduceAdd, Int.reduceSub, Int.reduceMul, Int.reduceNeg, q0, q1, q9, q10, q11, e1, e2]
    refine cd_dec (fun g => ?_) (fun g => ?_)
    · try simp only [go_sem, reduceIte, Nat.reduceEqDiff, Nat.reduceAdd, Nat.reduceSub, Nat.reduceMul, Nat.reduceLT, Nat.reduceLeDiff, Nat.reducePow, Int.reduceToNat, Int.reduceLT, Int.reduceLE, Int.reduceEq, Int.reduceNe, Int.reduceAdd, Int.reduceSub, Int.reduceMul, Int.reduceNeg, q0, q1, q9, q10, q11, e1, e2]
      exact finK_exact ⟨by rw [cmp2, if_pos g], rfl, rfl⟩
    · try simp only [go_sem, reduceIte, Nat.reduceEqDiff, Nat.reduceAdd, Nat.reduceSub, Nat.reduceMul, Nat.reduceLT, Nat.reduceLeDiff, Nat.reducePow, Int.reduceToNat, Int.reduceLT, Int.reduceLE, Int.reduceEq, Int.reduceNe, Int.reduceAdd, Int.reduceSub, Int.reduceMul, Int.reduceNeg, q0, q1, q9, q10, q11, e1, e2]
      exact ⟨1, by omega, fun _ => by omega, fun h => by omega, rfl⟩
  · have h0 := hj1 (by omega)
    try simp only [go_sem, reduceIte, Nat.reduceEqDiff, Nat.reduceAdd, Nat.reduceSub, Nat.reduceMul, Nat.reduceLT, Nat.reduceLeDiff, Nat.reducePow, Int.reduceToNat, Int.reduceLT, Int.reduceLE, Int.reduceEq, Int.reduceNe, Int.reduceAdd, Int.reduceSub, Int.reduceMul, Int.reduceNeg, q0, q1, q9, q10, q11, e1, e2]
    refine cK_vn hc2 ?_
    try simp only [go_sem, reduceIte, Nat.reduceEqDiff, Nat.reduceAdd, Nat.reduceSub, Nat.reduceMul, Nat.reduceLT, Nat.reduceLeDiff, Nat.reducePow, Int.reduceToNat, Int.reduceLT, Int.reduceLE, Int.reduceEq, Int.reduceNe, Int.reduceAdd, Int.reduceSub, Int.reduceMul, Int.reduceNeg, q0, q1, q9, q10, q11, e1, e2]
    refine cd_dec (fun g => ?_) (fun g => ?_)
    · try simp only [go_sem, reduceIte, Nat.reduceEqDiff, Nat.reduceAdd, Nat.reduceSub, Nat.reduceMul, Nat.reduceLT, Nat.reduceLeDiff, Nat.reducePow, Int.reduceToNat, Int.reduceLT, Int.reduceLE, Int.reduceEq, Int.reduceNe, Int.reduceAdd, Int.reduceSub, Int.reduceMul, Int.reduceNeg, q0, q1, q9, q10, q11, e1, e2]
      exact finK_exact ⟨by rw [cmp2, if_neg (by omega)], rfl, rfl⟩
    · try simp only [go_sem, reduceIte, Nat.reduceEqDiff, Nat.reduceAdd, Nat.reduceSub, Nat.reduceMul, Nat.reduceLT, Nat.reduceLeDiff, Nat.reducePow, Int.reduceToNat, Int.reduceLT, Int.reduceLE, Int.reduceEq, Int.reduceNe, Int.reduceAdd, Int.reduceSub, Int.reduceMul, Int.reduceNeg, q0, q1, q9, q10, q11, e1, e2]
      exact ⟨2, by omega, fun _ => by omega, fun h => by omega, rfl⟩
  · have h0 := hj1 (by omega)
    have h1 := hj2 (by omega)
    try simp only [go_sem, reduceIte, Nat.reduceEqDiff, Nat.reduceAdd, Nat.reduceSub, Nat.reduceMul, Nat.reduceLT, Nat.reduceLeDiff, Nat.reducePow, Int.reduceToNat, Int.reduceLT, Int.reduceLE, Int.reduceEq, Int.reduceNe, Int.reduceAdd, Int.reduceSub, Int.reduceMul, Int.reduceNeg, q0, q1, q9, q10, q11, e1, e2]
    exact finK_exact ⟨by rw [cmp2, if_neg (by omega), h1], rfl, rfl⟩
theorem cheaper_ok (a1 a2 b1 b2 : Int) : VN P G 43 [.agg [.int .i64 a1, .int .i64 a2], .agg [.int .i64 b1, .int .i64 b2]] (.bool (decide (cmp2 a1 a2 b1 b2 < 0))) := by
  unfold VN
  refine VC.ofs (fun | 1 => [(0, []), (1, []), (2, []), (3, []), (4, [])] | 99999999 => [(0, [0, 1, 2, 3, 4])] | _ => []) [4] mixed Try.func43 rfl rfl rfl rfl (by decide +kernel) (by simp) ?_
  simp only [go_sem, reduceIte, Nat.reduceEqDiff, Nat.reduceAdd, Nat.reduceSub, Nat.reduceMul, Nat.reduceLT, Nat.reduceLeDiff, Nat.reducePow, Int.reduceToNat, Int.reduceLT, Int.reduceLE, Int.reduceEq, Int.reduceNe, Int.reduceAdd, Int.reduceSub, Int.reduceMul, Int.reduceNeg]
  intro b0
  refine new_1 fun b1 h1 h2 => ?_
  try simp only [go_sem, reduceIte, Nat.reduceEqDiff, Nat.reduceAdd, Nat.reduceSub, Nat.reduceMul, Nat.reduceLT, Nat.reduceLeDiff, Nat.reducePow, Int.reduceToNat, Int.reduceLT, Int.reduceLE, Int.reduceEq, Int.reduceNe, Int.reduceAdd, Int.reduceSub, Int.reduceMul, Int.reduceNeg, h1, h2]
  refine cE_ro (sCompare_ok b0 b1 h2 _ _ _ _) (fun b cs h => h) (fun b h => h.elim) ((Fini.nil.set _ _).set _ _) ?_
  try simp only [go_sem, reduceIte, Nat.reduceEqDiff, Nat.reduceAdd, Nat.reduceSub, Nat.reduceMul, Nat.reduceLT, Nat.reduceLeDiff, Nat.reducePow, Int.reduceToNat, Int.reduceLT, Int.reduceLE, Int.reduceEq, Int.reduceNe, Int.reduceAdd, Int.reduceSub, Int.reduceMul, Int.reduceNeg, h1, h2]
  exact finK_drop ⟨rfl, rfl, rfl⟩
/-! The best plan. -/
def Pl.zero : Pl := ⟨[], [], 0, 0⟩
def scanF (l : List En) (p : Pr) : Pl := plF l (keepF l p) l.length
def bestF (l : List En) (ps : List Pr) : Nat → Int × Pl
  | 0 => (-1, Pl.zero)
  | j + 1 => match ps[j]? with
    | none => bestF l ps j
    | some p => if (bestF l ps j).1 < 0 ∨ cmp2 (scanF l p).bytes (scanF l p).req (bestF l ps j).2.bytes (bestF l ps j).2.req < 0 then ((j : Int), scanF l p) else bestF l ps j
theorem bestF_succ {l : List En} {ps : List Pr} {j : Nat} {p : Pr} (h : ps[j]? = some p) : bestF l ps (j + 1) = if (bestF l ps j).1 < 0 ∨ cmp2 (scanF l p).bytes (scanF l p).req (bestF l ps j).2.bytes (bestF l ps j).2.req < 0 then ((j : Int), scanF l p) else bestF l ps j := by
  conv => lhs; unfold bestF
  rw [h]
theorem Best_ok (l : List En) (ps : List Pr) (hl : l.length ≤ 60) (hc : ∀ e ∈ l, e.su.l.length ≤ 100) (hp : ∀ p ∈ ps, p.Lim) (hn : ps.length ≤ 1048576) : VN P G 25 [.sl .none (l.map En.d), .sl .none (ps.map Pr.d)] (.tup [.int .i64 (bestF l ps ps.length).1, .agg (bestF l ps ps.length).2.cells]) := by
  unfold VN
  refine VC.ofc (fun | 6 => [(0, []), (1, []), (2, []), (3, []), (5, [4]), (4, []), (6, []), (7, []), (8, [])] | 7 => [(0, []), (1, []), (2, []), (3, [])] | 9 => [(0, []), (1, []), (2, []), (3, [])] | 99999999 => [(0, [0, 1, 4, 5, 6, 7, 8, 9, 12, 13, 14, 30])] | _ => []) [.tmp 4, .cell 5 42] mixed Try.func25 rfl rfl rfl rfl (by decide +kernel) (by simp) ?_
  simp only [go_sem, reduceIte, Nat.reduceEqDiff, Nat.reduceAdd, Nat.reduceSub, Nat.reduceMul, Nat.reduceLT, Nat.reduceLeDiff, Nat.reducePow, Int.reduceToNat, Int.reduceLT, Int.reduceLE, Int.reduceEq, Int.reduceNe, Int.reduceAdd, Int.reduceSub, Int.reduceMul, Int.reduceNeg]
  intro b5
  refine new_any fun b7 hb7 => ?_
  simp only [set_none] at hb7
  have n7 := hb7.1
  try simp only [go_sem, reduceIte, Nat.reduceEqDiff, Nat.reduceAdd, Nat.reduceSub, Nat.reduceMul, Nat.reduceLT, Nat.reduceLeDiff, Nat.reducePow, Int.reduceToNat, Int.reduceLT, Int.reduceLE, Int.reduceEq, Int.reduceNe, Int.reduceAdd, Int.reduceSub, Int.reduceMul, Int.reduceNeg, n7]
  generalize hβ : Heap.set _ b7 _ = β0
  have e5 : β0 b5 = some [.sl .full [], .sl .full [], .int .i64 0, .int .i64 0] := by rw [← hβ]; simp [Heap.set, n7]
  have e7 : β0 b7 = some [.sl .full [], .sl .full [], .int .i64 0, .int .i64 0] := by rw [← hβ]; simp [Heap.set]
  clear hβ hb7
  have el : (ps.map Pr.d).length = ps.length := by simp
  refine vwq_loop (fun v => ∃ (j : Nat) (t1 t2 : Tk), j ≤ ps.length ∧ v.σ 0 = .sl .none (l.map En.d) ∧ v.σ 1 = .sl .none (ps.map Pr.d) ∧ v.σ 5 = .pb b5 0 ∧ v.σ 7 = .pb b7 0 ∧ v.σ 6 = .int .i64 (bestF l ps j).1 ∧ v.σ 12 = .int .i64 ps.length ∧ v.σ 13 = .int .i64 j ∧ v.β b5 = some [.sl .full [], .sl .full [], .int .i64 0, .int .i64 0] ∧ v.β b7 = some [.sl t1 ((bestF l ps j).2.read.map iD), .sl t2 ((bestF l ps j).2.skip.map iD), .int .i64 (bestF l ps j).2.req, .int .i64 (bestF l ps j).2.bytes]) (fun v => ps.length - (ival (v.σ 13)).toNat) ⟨0, .full, .full, by omega, rfl, rfl, rfl, rfl, rfl, ?_, rfl, e5, e7⟩ ?_
  · rw [← el]; rfl
  clear e5 e7 β0
  rintro σ β ω ⟨j, t1, t2, hj, q0, q1, q5, q7, q6, q12, q13, e5, e7⟩
  dsimp only at q0 q1 q5 q7 q6 q12 q13 e5 e7
  try simp only [go_sem, reduceIte, Nat.reduceEqDiff, Nat.reduceAdd, Nat.reduceSub, Nat.reduceMul, Nat.reduceLT, Nat.reduceLeDiff, Nat.reducePow, Int.reduceToNat, Int.reduceLT, Int.reduceLE, Int.reduceEq, Int.reduceNe, Int.reduceAdd, Int.reduceSub, Int.reduceMul, Int.reduceNeg, q0, q1, q5, q7, q6, q12, q13, e5, e7]
  refine cd_dec (fun g => ?_) (fun g => ?_)
  · have g' := eq_true g
    have c1 : ((0 : Int) ≤ j) = True := eq_true (by omega)
    have wj := wrap_i64 (x := (j : Int) + 1) (by omega) (by omega)
    obtain ⟨p, hpj⟩ : ∃ p, ps[j]? = some p := ⟨ps[j]'(by omega), by simp⟩
    have hpm := List.mem_of_getElem? hpj
    have ep : (ps.map Pr.d).getD j .any = .agg p.cells := by rw [List.getD, List.getElem?_map, hpj]; exact p.d_eq
    have hsc : VN P G 14 [.sl .none (l.map En.d), .agg p.cells] (.agg [.sl .none ((scanF l p).read.map iD), .sl .none ((scanF l p).skip.map iD), .int .i64 (scanF l p).req, .int .i64 (scanF l p).bytes]) := Scan_ok (G := G) l p hl hc (hp p hpm)
    have hb := bestF_succ (l := l) hpj
    generalize scanF l p = X at hsc hb
    try simp only [go_sem, reduceIte, Nat.reduceEqDiff, Nat.reduceAdd, Nat.reduceSub, Nat.reduceMul, Nat.reduceLT, Nat.reduceLeDiff, Nat.reducePow, Int.reduceToNat, Int.reduceLT, Int.reduceLE, Int.reduceEq, Int.reduceNe, Int.reduceAdd, Int.reduceSub, Int.reduceMul, Int.reduceNeg, q0, q1, q5, q7, q6, q12, q13, e5, e7, el, ep, g', c1, p.take7, p.obj, p.len7]
    refine cK_vn hsc ?_
    try simp only [go_sem, reduceIte, Nat.reduceEqDiff, Nat.reduceAdd, Nat.reduceSub, Nat.reduceMul, Nat.reduceLT, Nat.reduceLeDiff, Nat.reducePow, Int.reduceToNat, Int.reduceLT, Int.reduceLE, Int.reduceEq, Int.reduceNe, Int.reduceAdd, Int.reduceSub, Int.reduceMul, Int.reduceNeg, q0, q1, q5, q7, q6, q12, q13, e5, e7, el, ep, g', c1]
    refine new_any fun b9 hb9 => ?_
    have n59 := box_ne hb9 e5
    have n79 := box_ne hb9 e7
    have hpr1 := fun (t1 t2 : Tk) => price_ok (G := G) t1 t2 (X.read.map iD) (X.skip.map iD) X.req X.bytes
    have hpr2 := fun (t1 t2 : Tk) => price_ok (G := G) t1 t2 ((bestF l ps j).2.read.map iD) ((bestF l ps j).2.skip.map iD) (bestF l ps j).2.req (bestF l ps j).2.bytes
    have hch := cheaper_ok (G := G) X.bytes X.req (bestF l ps j).2.bytes (bestF l ps j).2.req
    by_cases hneg : (bestF l ps j).1 < 0
    · have hneg' := eq_true hneg
      rw [if_pos (.inl hneg)] at hb
      try simp only [go_sem, reduceIte, Nat.reduceEqDiff, Nat.reduceAdd, Nat.reduceSub, Nat.reduceMul, Nat.reduceLT, Nat.reduceLeDiff, Nat.reducePow, Int.reduceToNat, Int.reduceLT, Int.reduceLE, Int.reduceEq, Int.reduceNe, Int.reduceAdd, Int.reduceSub, Int.reduceMul, Int.reduceNeg, q0, q1, q5, q7, q6, q12, q13, e5, e7, n59, n79, hneg', wj]
      refine ⟨⟨j + 1, .none, .none, by omega, ?_⟩, by omega⟩
      rw [hb]
      refine ⟨rfl, rfl, ?_, ?_⟩
      · simp [Heap.set, n59, n7, e5]
      · simp [Heap.set, n79, n7]
    · have hneg' := eq_false hneg
      try simp only [go_sem, reduceIte, Nat.reduceEqDiff, Nat.reduceAdd, Nat.reduceSub, Nat.reduceMul, Nat.reduceLT, Nat.reduceLeDiff, Nat.reducePow, Int.reduceToNat, Int.reduceLT, Int.reduceLE, Int.reduceEq, Int.reduceNe, Int.reduceAdd, Int.reduceSub, Int.reduceMul, Int.reduceNeg, q0, q1, q5, q7, q6, q12, q13, e5, e7, n59, n79, hneg', wj]
      refine cE_vn (hpr1 _ _) ?_
      try simp only [go_sem, reduceIte, Nat.reduceEqDiff, Nat.reduceAdd, Nat.reduceSub, Nat.reduceMul, Nat.reduceLT, Nat.reduceLeDiff, Nat.reducePow, Int.reduceToNat, Int.reduceLT, Int.reduceLE, Int.reduceEq, Int.reduceNe, Int.reduceAdd, Int.reduceSub, Int.reduceMul, Int.reduceNeg, q0, q1, q5, q7, q6, q12, q13, e5, e7, n59, n79, hneg', wj]
      refine cE_vn (hpr2 _ _) ?_
      try simp only [go_sem, reduceIte, Nat.reduceEqDiff, Nat.reduceAdd, Nat.reduceSub, Nat.reduceMul, Nat.reduceLT, Nat.reduceLeDiff, Nat.reducePow, Int.reduceToNat, Int.reduceLT, Int.reduceLE, Int.reduceEq, Int.reduceNe, Int.reduceAdd, Int.reduceSub, Int.reduceMul, Int.reduceNeg, q0, q1, q5, q7, q6, q12, q13, e5, e7, n59, n79, hneg', wj]
      refine cE_vn hch ?_
      by_cases hlt : cmp2 X.bytes X.req (bestF l ps j).2.bytes (bestF l ps j).2.req < 0
      · have hlt' := eq_true hlt
        rw [if_pos (.inr hlt)] at hb
        try simp only [go_sem, reduceIte, Nat.reduceEqDiff, Nat.reduceAdd, Nat.reduceSub, Nat.reduceMul, Nat.reduceLT, Nat.reduceLeDiff, Nat.reducePow, Int.reduceToNat, Int.reduceLT, Int.reduceLE, Int.reduceEq, Int.reduceNe, Int.reduceAdd, Int.reduceSub, Int.reduceMul, Int.reduceNeg, q0, q1, q5, q7, q6, q12, q13, e5, e7, n59, n79, hneg', hlt', decide_true, wj]
        refine ⟨⟨j + 1, .none, .none, by omega, ?_⟩, by omega⟩
        rw [hb]
        refine ⟨rfl, rfl, ?_, ?_⟩
        · simp [Heap.set, n59, n7, e5]
        · simp [Heap.set, n79, n7]
      · have hlt' := eq_false hlt
        rw [if_neg (by simp [hneg, hlt])] at hb
        try simp only [go_sem, reduceIte, Nat.reduceEqDiff, Nat.reduceAdd, Nat.reduceSub, Nat.reduceMul, Nat.reduceLT, Nat.reduceLeDiff, Nat.reducePow, Int.reduceToNat, Int.reduceLT, Int.reduceLE, Int.reduceEq, Int.reduceNe, Int.reduceAdd, Int.reduceSub, Int.reduceMul, Int.reduceNeg, q0, q1, q5, q7, q6, q12, q13, e5, e7, n59, n79, hneg', hlt', decide_false, wj]
        refine ⟨⟨j + 1, t1, t2, by omega, ?_⟩, by omega⟩
        rw [hb]
        refine ⟨rfl, ?_⟩
        simp [Heap.set, n79, n7, e7]
  · try simp only [go_sem, reduceIte, Nat.reduceEqDiff, Nat.reduceAdd, Nat.reduceSub, Nat.reduceMul, Nat.reduceLT, Nat.reduceLeDiff, Nat.reducePow, Int.reduceToNat, Int.reduceLT, Int.reduceLE, Int.reduceEq, Int.reduceNe, Int.reduceAdd, Int.reduceSub, Int.reduceMul, Int.reduceNeg, q0, q1, q5, q7, q6, q12, q13, e5, e7]
    obtain rfl : j = ps.length := by omega
    refine finK_drop ⟨?_, rfl, rfl⟩
    simp only [Pl.cells, D.er, List.map_cons, List.map_nil, er_iD]
    rfl
end Go.Proofs.YtgkfcgfobckaaaaS
