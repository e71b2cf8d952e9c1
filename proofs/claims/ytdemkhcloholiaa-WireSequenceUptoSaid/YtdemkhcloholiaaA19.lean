import Derived.Test.YtdemkhcloholiaaA14
set_option linter.unusedVariables false
set_option linter.unusedSimpArgs false
namespace Go.Proofs.YtdemkhcloholiaaS
open Go Go.Proofs.YtdemkhcloholiaaV

variable {G : Heap}

def encV (b : List Nat) (v : Val) : List Nat := b ++ enc v.n ++ enc (zig v.k) ++ enc v.s.size ++ sb v.s ++ enc v.p.length ++ v.p
def encL (vs : List Val) : List Nat := vs.foldl encV []
def vls (vs : List Val) : List D := vs.map fun v => .agg v.cells

theorem encV_split (b : List Nat) (v : Val) : encV b v = b ++ encV [] v := by simp [encV]
theorem encL_from : ∀ (vs : List Val) (b : List Nat), vs.foldl encV b = b ++ encL vs
  | [], b => by simp [encL]
  | v :: vs, b => by
    unfold encL
    rw [List.foldl_cons, List.foldl_cons, encL_from vs, encL_from vs (encV [] v), encV_split b v]
    simp
theorem encL_take (vs : List Val) (j : Nat) (h : j < vs.length) : encL (vs.take (j + 1)) = encV (encL (vs.take j)) vs[j] := by
  unfold encL
  rw [List.take_add_one, List.getElem?_eq_getElem h, Option.toList_some, List.foldl_append]
  rfl
theorem encL_parts (vs : List Val) (j : Nat) (h : j < vs.length) : encL vs = encV (encL (vs.take j)) vs[j] ++ encL (vs.drop (j + 1)) := by
  conv => lhs; rw [← List.take_append_drop (j + 1) vs]
  unfold encL
  rw [List.foldl_append, encL_from]
  congr 1
  exact encL_take vs j h
theorem vls_length (vs : List Val) : (vls vs).length = vs.length := by simp [vls]
theorem vls_at (vs : List Val) (j : Nat) (h : j < vs.length) : (vls vs).getD j .any = .agg vs[j].cells := by simp [vls, List.getD, List.getElem?_map, h]
theorem byt_encV {b : List Nat} {v : Val} (hb : Byt b) (hp : Byt v.p) : Byt (encV b v) := (((((hb.append (byt_enc _)).append (byt_enc _)).append (byt_enc _)).append (byt_sb _)).append (byt_enc _)).append hp
theorem byt_encL : ∀ (vs : List Val), (∀ v ∈ vs, Byt v.p) → Byt (encL vs) := fun vs => by
  have key : ∀ (vs : List Val) (b : List Nat), Byt b → (∀ v ∈ vs, Byt v.p) → Byt (vs.foldl encV b) := fun vs => by
    induction vs with
    | nil => intro b hb _; exact hb
    | cons v vs ih => intro b hb h; exact ih _ (byt_encV hb (h v (by simp))) fun u hu => h u (by simp [hu])
  exact key vs [] Byt.nil
theorem encV_length {b : List Nat} {v : Val} (hn : v.n < 18446744073709551616) (hk : -9223372036854775808 ≤ v.k ∧ v.k < 9223372036854775808) (hs : v.s.size ≤ 1000) (hp : v.p.length ≤ 1000) : (encV b v).length ≤ b.length + 2040 ∧ b.length < (encV b v).length := by
  have l1 := enc_len hn
  have l2 := enc_len (zig_lt hk)
  have l3 := enc_len (n := v.s.size) (by omega)
  have l4 := enc_len (n := v.p.length) (by omega)
  have l5 := sb_length v.s
  have l6 := enc_pos v.n
  simp only [encV, List.length_append]
  omega

theorem ne_self {α : Type} (a : α) : (a ≠ a) = False := by simp
theorem VN.tk {f : FuncId} {xs : List D} {rest : List D} {d : D} {tk : Tk} (h : VN P G f (.sl .none xs :: rest) d) : VN P G f (.sl tk xs :: rest) d := fun K w vargs hr ha => h K w vargs hr (by
  cases ha with
  | cons h1 h2 => exact .cons h1.er1 h2)

set_option maxHeartbeats 4000000 in
set_option maxRecDepth 100000 in
theorem sequence_ok (vs : List Val) (hl : vs.length ≤ 1048576) (hv : ∀ v ∈ vs, v.ok) : VN P G 9 [.sl .none (vls vs)] (.bool true) := by
  refine VC.ofs (fun | 8 => [(0, []), (1, []), (2, []), (3, []), (4, []), (5, []), (7, []), (8, []), (9, []), (10, []), (11, [6]), (13, []), (14, []), (15, []), (16, []), (17, [6, 12]), (19, []), (20, []), (21, []), (22, []), (23, [6, 12, 18]), (6, []), (12, []), (18, []), (24, []), (25, [])] | 99999999 => [(0, [0, 2, 3, 4, 5, 6, 7, 8, 9, 10, 11, 12, 13, 14, 15, 16, 17, 18, 19, 25, 48, 78, 164])] | _ => []) [2] mixed Try.func9 rfl rfl rfl rfl (by decide +kernel) (by simp) ?_
  simp only [go_sem, reduceIte, Nat.reduceEqDiff, Nat.reduceAdd, Nat.reduceSub, Nat.reduceMul, Nat.reduceLT, Nat.reduceLeDiff, Nat.reducePow, Int.reduceToNat, Int.reduceLT, Int.reduceLE, Int.reduceEq, Int.reduceNe, Int.reduceAdd, Int.reduceSub, Int.reduceMul, Int.reduceNeg]
  refine cK_vn sanity_ok ?_
  simp only [go_sem, reduceIte, Nat.reduceEqDiff, Nat.reduceAdd, Nat.reduceSub, Nat.reduceMul, Nat.reduceLT, Nat.reduceLeDiff, Nat.reducePow, Int.reduceToNat, Int.reduceLT, Int.reduceLE, Int.reduceEq, Int.reduceNe, Int.reduceAdd, Int.reduceSub, Int.reduceMul, Int.reduceNeg]
  refine vwq_loop (fun u => ∃ (j : Nat) (tk : Tk), j ≤ vs.length ∧ (j = 0 ∨ vs.length ≤ 40) ∧ (∀ v ∈ vs.take j, v.s.size ≤ 1000 ∧ v.p.length ≤ 1000) ∧ (encL (vs.take j)).length ≤ 2040 * j ∧ u.σ 0 = .sl .none (vls vs) ∧ u.σ 3 = .bool true ∧ u.σ 4 = .sl tk (bs (encL (vs.take j))) ∧ u.σ 5 = .int .i64 j ∧ u.β = Heap.nil ∧ u.ω = []) (fun u => vs.length - (ival (u.σ 5)).toNat) ⟨0, .full, by omega, .inl rfl, by simp, by simp [encL], rfl, rfl, rfl, rfl, rfl, rfl⟩ ?_
  rintro σ β ω ⟨j, tk, hj, hj0, hsm, hlen, q0, q3, q4, q5, rfl, rfl⟩
  dsimp only at q0 q3 q4 q5
  simp only [go_sem, reduceIte, Nat.reduceEqDiff, Nat.reduceAdd, Nat.reduceSub, Nat.reduceMul, Nat.reduceLT, Nat.reduceLeDiff, Nat.reducePow, Int.reduceToNat, Int.reduceLT, Int.reduceLE, Int.reduceEq, Int.reduceNe, Int.reduceAdd, Int.reduceSub, Int.reduceMul, Int.reduceNeg, q0, q3, q4, q5, vls_length]
  refine cd_dec (fun h => ?_) (fun h => ?_)
  · have hj' : j < vs.length := by omega
    simp only [go_sem, reduceIte, Nat.reduceEqDiff, Nat.reduceAdd, Nat.reduceSub, Nat.reduceMul, Nat.reduceLT, Nat.reduceLeDiff, Nat.reducePow, Int.reduceToNat, Int.reduceLT, Int.reduceLE, Int.reduceEq, Int.reduceNe, Int.reduceAdd, Int.reduceSub, Int.reduceMul, Int.reduceNeg, q0, q3, q4, q5, vls_length, vls_at vs j hj', Val.cells]
    have hvj := hv vs[j] (List.getElem_mem hj')
    have hps := encL_take vs j hj'
    have hst : ∀ v ∈ vs.take (j + 1), v ∈ vs.take j ∨ v = vs[j] := fun v h => by
      rw [List.take_add_one, List.getElem?_eq_getElem hj', Option.toList_some, List.mem_append, List.mem_singleton] at h
      exact h
    generalize hvv : vs[j] = v at hvj hps hst ⊢
    obtain ⟨v1, v2, v3, v4, v5⟩ := hvj
    refine ⟨fun h0 => ⟨h0, h0, by omega, by omega⟩, fun h0 => ⟨h0, h0, by omega, by omega⟩, cd_dec (fun h1 => ?_) (fun h1 => ?_)⟩
    · simp only [go_sem, reduceIte, Nat.reduceEqDiff, Nat.reduceAdd, Nat.reduceSub, Nat.reduceMul, Nat.reduceLT, Nat.reduceLeDiff, Nat.reducePow, Int.reduceToNat, Int.reduceLT, Int.reduceLE, Int.reduceEq, Int.reduceNe, Int.reduceAdd, Int.reduceSub, Int.reduceMul, Int.reduceNeg, q0, q3, q4, q5, vls_length]
      exact finK_drop ⟨rfl, rfl, rfl⟩
    · have hx := encV_length (b := encL (vs.take j)) v1 v2 (by omega) (by omega)
      have l5 := sb_length v.s
      simp only [go_sem, reduceIte, Nat.reduceEqDiff, Nat.reduceAdd, Nat.reduceSub, Nat.reduceMul, Nat.reduceLT, Nat.reduceLeDiff, Nat.reducePow, Int.reduceToNat, Int.reduceLT, Int.reduceLE, Int.reduceEq, Int.reduceNe, Int.reduceAdd, Int.reduceSub, Int.reduceMul, Int.reduceNeg, q0, q3, q4, q5, vls_length, vls_at vs j hj', hvv, Val.cells]
      have lx := enc_len v1
      have ly := enc_len (zig_lt v2)
      have lz := enc_len (n := v.s.size) (by omega)
      refine ⟨by omega, by omega, by omega, by omega, cE_vn (wU_vn _ (encL (vs.take j)) v.n (by omega) v1) ?_⟩
      simp only [go_sem, reduceIte, Nat.reduceEqDiff, Nat.reduceAdd, Nat.reduceSub, Nat.reduceMul, Nat.reduceLT, Nat.reduceLeDiff, Nat.reducePow, Int.reduceToNat, Int.reduceLT, Int.reduceLE, Int.reduceEq, Int.reduceNe, Int.reduceAdd, Int.reduceSub, Int.reduceMul, Int.reduceNeg, q0, q3, q4, q5, vls_length, vls_at vs j hj', hvv, Val.cells]
      refine cE_vn (wS_vn _ _ v.k v2 (by simp only [List.length_append]; omega)) ?_
      simp only [go_sem, reduceIte, Nat.reduceEqDiff, Nat.reduceAdd, Nat.reduceSub, Nat.reduceMul, Nat.reduceLT, Nat.reduceLeDiff, Nat.reducePow, Int.reduceToNat, Int.reduceLT, Int.reduceLE, Int.reduceEq, Int.reduceNe, Int.reduceAdd, Int.reduceSub, Int.reduceMul, Int.reduceNeg, q0, q3, q4, q5, vls_length, vls_at vs j hj', hvv, Val.cells]
      refine cE_vn (wText_vn _ _ v.s (by simp only [List.length_append]; omega)) ?_
      simp only [go_sem, reduceIte, Nat.reduceEqDiff, Nat.reduceAdd, Nat.reduceSub, Nat.reduceMul, Nat.reduceLT, Nat.reduceLeDiff, Nat.reducePow, Int.reduceToNat, Int.reduceLT, Int.reduceLE, Int.reduceEq, Int.reduceNe, Int.reduceAdd, Int.reduceSub, Int.reduceMul, Int.reduceNeg, q0, q3, q4, q5, vls_length, vls_at vs j hj', hvv, Val.cells]
      refine cE_vn (wBytes_vn _ _ _ v.p (by simp only [List.length_append]; omega)) ?_
      simp only [go_sem, reduceIte, Nat.reduceEqDiff, Nat.reduceAdd, Nat.reduceSub, Nat.reduceMul, Nat.reduceLT, Nat.reduceLeDiff, Nat.reducePow, Int.reduceToNat, Int.reduceLT, Int.reduceLE, Int.reduceEq, Int.reduceNe, Int.reduceAdd, Int.reduceSub, Int.reduceMul, Int.reduceNeg, q0, q3, q4, q5, vls_length, vls_at vs j hj', hvv, Val.cells]
      rw [wrap_i64 (x := (j : Int) + 1) (by omega) (by omega)]
      refine ⟨⟨j + 1, .none, by omega, .inr (by omega), ?_, ?_, ?_, ?_⟩, by omega⟩
      · intro u hu
        rcases hst u hu with h2 | rfl
        · exact hsm u h2
        · exact ⟨by omega, by omega⟩
      · rw [hps]; omega
      · rw [hps]; rfl
      · rfl
  · obtain rfl : j = vs.length := by omega
    rw [List.take_length] at hsm hlen q4
    have hB := byt_encL vs fun v h => (hv v h).b
    simp only [go_sem, reduceIte, Nat.reduceEqDiff, Nat.reduceAdd, Nat.reduceSub, Nat.reduceMul, Nat.reduceLT, Nat.reduceLeDiff, Nat.reducePow, Int.reduceToNat, Int.reduceLT, Int.reduceLE, Int.reduceEq, Int.reduceNe, Int.reduceAdd, Int.reduceSub, Int.reduceMul, Int.reduceNeg, q0, q3, q4, q5, vls_length]
    refine vwq_loop (fun u => ∃ (j : Nat), j ≤ vs.length ∧ u.σ 0 = .sl .none (vls vs) ∧ u.σ 3 = .bool true ∧ u.σ 4 = .sl tk (bs (encL vs)) ∧ u.σ 6 = .int .i64 (encL (vs.take j)).length ∧ u.σ 7 = .int .i64 j ∧ u.β = Heap.nil ∧ u.ω = []) (fun u => vs.length - (ival (u.σ 7)).toNat) ⟨0, by omega, rfl, rfl, ?_, rfl, rfl, rfl, rfl⟩ ?_
    · show D.sl tk (bs (encL (vs.take vs.length))) = _
      rw [List.take_length]
    rintro σ β ω ⟨j, hj, p0, p3, p4, p6, p7, rfl, rfl⟩
    dsimp only at p0 p3 p4 p6 p7
    simp only [go_sem, reduceIte, Nat.reduceEqDiff, Nat.reduceAdd, Nat.reduceSub, Nat.reduceMul, Nat.reduceLT, Nat.reduceLeDiff, Nat.reducePow, Int.reduceToNat, Int.reduceLT, Int.reduceLE, Int.reduceEq, Int.reduceNe, Int.reduceAdd, Int.reduceSub, Int.reduceMul, Int.reduceNeg, p0, p3, p4, p6, p7, vls_length]
    refine cd_dec (fun h => ?_) (fun h => ?_)
    · have hj' : j < vs.length := by omega
      have hvj := hv vs[j] (List.getElem_mem hj')
      have hsj := hsm vs[j] (List.getElem_mem hj')
      have hpt := encL_parts vs j hj'
      have hps := encL_take vs j hj'
      have hB1 := byt_encL (vs.take j) fun v h => (hv v (List.mem_of_mem_take h)).b
      have hB2 := byt_encL (vs.drop (j + 1)) fun v h => (hv v (List.mem_of_mem_drop h)).b
      generalize encL (vs.take j) = x at p6 hpt hps hB1
      generalize encL (vs.drop (j + 1)) = y at hpt hB2
      generalize hvv : vs[j] = v at hvj hsj hps hpt
      generalize encL vs = z at p4 hpt hlen hB
      obtain ⟨v1, v2, v3, v4, v5⟩ := hvj
      simp only [go_sem, reduceIte, Nat.reduceEqDiff, Nat.reduceAdd, Nat.reduceSub, Nat.reduceMul, Nat.reduceLT, Nat.reduceLeDiff, Nat.reducePow, Int.reduceToNat, Int.reduceLT, Int.reduceLE, Int.reduceEq, Int.reduceNe, Int.reduceAdd, Int.reduceSub, Int.reduceMul, Int.reduceNeg, p0, p3, p4, p6, p7, vls_length, vls_at vs j hj', hvv, Val.cells]
      have n1 : Byt (x ++ enc v.n) := hB1.append (byt_enc _)
      have n2 : Byt (x ++ enc v.n ++ enc (zig v.k)) := n1.append (byt_enc _)
      have n3 : Byt (x ++ enc v.n ++ enc (zig v.k) ++ enc v.s.size ++ sb v.s) := (n2.append (byt_enc _)).append (byt_sb _)
      have m4 : Byt (enc v.p.length ++ (v.p ++ y)) := (byt_enc _).append (v5.append hB2)
      have m3 : Byt (enc v.s.size ++ (sb v.s ++ (enc v.p.length ++ (v.p ++ y)))) := (byt_enc _).append ((byt_sb _).append m4)
      have m2 : Byt (enc (zig v.k) ++ (enc v.s.size ++ (sb v.s ++ (enc v.p.length ++ (v.p ++ y))))) := (byt_enc _).append m3
      have r1 := VN.tk (tk := tk) (RUe (G := G) x _ v.n v1 hB1 m2)
      have r2 := VN.tk (tk := tk) (RSe (G := G) (x ++ enc v.n) _ v.k v2 n1 m3)
      have r3 := VN.tk (tk := tk) (RTe (G := G) (x ++ enc v.n ++ enc (zig v.k)) _ v.s (by omega) n2 m4)
      have hz : x ++ enc v.n ++ enc (zig v.k) ++ enc v.s.size ++ sb v.s ++ enc v.p.length ++ v.p ++ y = z := hpt.symm
      have r4 := VN.tk (tk := tk) (RBe (G := G) (x ++ enc v.n ++ enc (zig v.k) ++ enc v.s.size ++ sb v.s) v.p y (by omega) n3 v5 hB2 (by rw [hz]; omega))
      simp only [List.append_assoc] at r1 r2 r3 r4 hz
      rw [hz] at r1 r2 r3 r4
      have hx := encV_length (b := x) v1 v2 hsj.1 hsj.2
      refine cK_vn r1 ?_
      simp only [go_sem, reduceIte, Nat.reduceEqDiff, Nat.reduceAdd, Nat.reduceSub, Nat.reduceMul, Nat.reduceLT, Nat.reduceLeDiff, Nat.reducePow, Int.reduceToNat, Int.reduceLT, Int.reduceLE, Int.reduceEq, Int.reduceNe, Int.reduceAdd, Int.reduceSub, Int.reduceMul, Int.reduceNeg, p0, p3, p4, p6, p7, vls_length, vls_at vs j hj', hvv, Val.cells]
      refine cK_vn r2 ?_
      simp only [go_sem, reduceIte, Nat.reduceEqDiff, Nat.reduceAdd, Nat.reduceSub, Nat.reduceMul, Nat.reduceLT, Nat.reduceLeDiff, Nat.reducePow, Int.reduceToNat, Int.reduceLT, Int.reduceLE, Int.reduceEq, Int.reduceNe, Int.reduceAdd, Int.reduceSub, Int.reduceMul, Int.reduceNeg, p0, p3, p4, p6, p7, vls_length, vls_at vs j hj', hvv, Val.cells]
      refine cK_vn r3 ?_
      simp only [go_sem, reduceIte, Nat.reduceEqDiff, Nat.reduceAdd, Nat.reduceSub, Nat.reduceMul, Nat.reduceLT, Nat.reduceLeDiff, Nat.reducePow, Int.reduceToNat, Int.reduceLT, Int.reduceLE, Int.reduceEq, Int.reduceNe, Int.reduceAdd, Int.reduceSub, Int.reduceMul, Int.reduceNeg, p0, p3, p4, p6, p7, vls_length, vls_at vs j hj', hvv, Val.cells]
      refine cK_vn r4 ?_
      have hj2 : ((0 : Int) ≤ (j : Int) ∧ (j : Int) < vs.length) = True := by simp only [eq_iff_iff, iff_true]; omega
      simp only [go_sem, reduceIte, Nat.reduceEqDiff, Nat.reduceAdd, Nat.reduceSub, Nat.reduceMul, Nat.reduceLT, Nat.reduceLeDiff, Nat.reducePow, Int.reduceToNat, Int.reduceLT, Int.reduceLE, Int.reduceEq, Int.reduceNe, Int.reduceAdd, Int.reduceSub, Int.reduceMul, Int.reduceNeg, p0, p3, p4, p6, p7, vls_length, vls_at vs j hj', hvv, Val.cells, ne_self, hj2]
      refine cK_vn (SMr _ _ _) ?_
      simp only [go_sem, reduceIte, Nat.reduceEqDiff, Nat.reduceAdd, Nat.reduceSub, Nat.reduceMul, Nat.reduceLT, Nat.reduceLeDiff, Nat.reducePow, Int.reduceToNat, Int.reduceLT, Int.reduceLE, Int.reduceEq, Int.reduceNe, Int.reduceAdd, Int.reduceSub, Int.reduceMul, Int.reduceNeg, p0, p3, p4, p6, p7, vls_length, vls_at vs j hj', hvv, Val.cells, ne_self, hj2]
      have hxl : (x ++ (enc v.n ++ (enc (zig v.k) ++ (enc v.s.size ++ (sb v.s ++ (enc v.p.length ++ v.p)))))).length = (encV x v).length := by simp only [encV, List.append_assoc]
      refine cd_dec (fun h2 => absurd h2 (by omega)) (fun h2 => ?_)
      simp only [go_sem, reduceIte, Nat.reduceEqDiff, Nat.reduceAdd, Nat.reduceSub, Nat.reduceMul, Nat.reduceLT, Nat.reduceLeDiff, Nat.reducePow, Int.reduceToNat, Int.reduceLT, Int.reduceLE, Int.reduceEq, Int.reduceNe, Int.reduceAdd, Int.reduceSub, Int.reduceMul, Int.reduceNeg, p0, p3, p4, p6, p7, vls_length, vls_at vs j hj', hvv, Val.cells, ne_self, hj2]
      rw [wrap_i64 (x := (j : Int) + 1) (by omega) (by omega)]
      refine ⟨⟨j + 1, by omega, ?_, rfl⟩, by omega⟩
      rw [hps, hxl]
    · simp only [go_sem, reduceIte, Nat.reduceEqDiff, Nat.reduceAdd, Nat.reduceSub, Nat.reduceMul, Nat.reduceLT, Nat.reduceLeDiff, Nat.reducePow, Int.reduceToNat, Int.reduceLT, Int.reduceLE, Int.reduceEq, Int.reduceNe, Int.reduceAdd, Int.reduceSub, Int.reduceMul, Int.reduceNeg, p0, p3, p4, p6, p7, vls_length]
      obtain rfl : j = vs.length := by omega
      rw [List.take_length, decide_eq_true rfl]
      exact finK_drop ⟨rfl, rfl, rfl⟩
end Go.Proofs.YtdemkhcloholiaaS
