/-
  Predicates: fenlandref08.put and Encode.
-/
import Derived.Test.YtbfkhepfgibonaaGreatQI
import Derived.Test.YtbfkhepfgibonaaGreatQD
set_option linter.unusedVariables false
set_option linter.unusedSimpArgs false
namespace Go.Proofs.YtbfkhepfgibonaaGreatS
open Go Go.Proofs.YtbfkhepfgibonaaGreatV

variable {G : Heap}
attribute [local irreducible] VN VC VX VQ VY VW VTA VT0

theorem encVl_eq (v : Vl) : encVl v = [bit v.null] ++ enc (zig v.n) ++ enc v.s.size ++ sb v.s := by simp [encVl]
theorem fm_take {α : Type} {f : α → List Nat} {l : List α} {j : Nat} {x : α} (hx : l[j]? = some x) : (l.take (j + 1)).flatMap f = (l.take j).flatMap f ++ f x := by
  rw [List.take_add_one, hx, List.flatMap_append]; simp
theorem fm_take_le {α : Type} (f : α → List Nat) (l : List α) (j : Nat) : ((l.take j).flatMap f).length ≤ (l.flatMap f).length := by
  conv => rhs; rw [← List.take_append_drop j l]
  rw [List.flatMap_append, List.length_append]; omega
theorem bs_u8 (n : Nat) (h : n < 256) : IntKind.u8.wrap (n : Int) = n := by rw [wrap_u8]; omega
set_option maxRecDepth 100000 in
set_option maxHeartbeats 8000000 in
theorem put_step (p : Pr) (hF : FormP p) (hI : PI p) (tk : Tk) (b : List Nat) (hb : b.length + (encP p).length ≤ 2^40)
    (ih : ∀ k ∈ p.kids, ∀ (tk : Tk) (b : List Nat), b.length + (encP k).length ≤ 2^40 → VN P G 60 [.sl tk (bs b), .agg k.cells] (.sl .none (bs (b ++ encP k)))) :
    VN P G 60 [.sl tk (bs b), .agg p.cells] (.sl .none (bs (b ++ encP p))) := by
  have hE := encP_eq p
  obtain ⟨op, id, lo, hi, set, text, kids⟩ := p
  obtain ⟨fo, fid, flo, fhi, ft, fs, fk, s16, k16, one, t200, v200⟩ := hF
  obtain ⟨i1, i2, i3, i4⟩ := hI
  simp only [Pr.op, Pr.id, Pr.lo, Pr.hi, Pr.set, Pr.text, Pr.kids, usedP, encH] at fo fs fk s16 k16 t200 v200 i1 i2 i3 i4 hE
  simp only [Pr.kids] at ih
  simp only [Pr.op, Pr.id, Pr.lo, Pr.hi, Pr.set, Pr.text, Pr.kids, Pr.cells]
  have el : (kids.map Pr.d).length = kids.length := by simp
  have es : (set.map Vl.d).length = set.length := by simp
  have eb : (bs b).length = b.length := bs_length b
  have l1 := enc_len (zig_lt i1)
  have l2 := enc_len (zig_lt i2)
  have l3 := enc_len (zig_lt i3)
  clear fid flo fhi ft one
  unfold VN
  refine VC.ofs (fun | 7 => [(0, []), (1, []), (2, []), (4, []), (5, [3]), (3, []), (6, []), (7, [])] | 17 => [(0, []), (1, []), (2, []), (3, []), (4, []), (5, []), (6, []), (8, []), (9, [7]), (10, []), (11, []), (12, []), (13, [7]), (7, []), (14, []), (15, [])] | 99999999 => [(0, [0, 1, 3, 4, 5, 6, 7, 8, 25, 31, 32, 41, 53, 61, 81, 87, 101])] | _ => []) [4] mixed Tryz.func60 rfl rfl rfl rfl (by decide +kernel) (by simp) ?_
  have h8 : op = 0 ∨ op = 1 ∨ op = 2 ∨ op = 3 ∨ op = 4 ∨ op = 5 ∨ op = 6 ∨ op = 7 := by omega
  rcases h8 with rfl | rfl | rfl | rfl | rfl | rfl | rfl | rfl
  all_goals simp [isAt] at hE fs fk
  all_goals rw [hE] at hb ⊢
  all_goals clear hE
  all_goals simp only [go_sem, reduceIte, Nat.reduceEqDiff, Nat.reduceAdd, Nat.reduceSub, Nat.reduceMul, Nat.reduceLT, Nat.reduceLeDiff, Nat.reducePow, Int.reduceToNat, Int.reduceLT, Int.reduceLE, Int.reduceEq, Int.reduceNe, Int.reduceAdd, Int.reduceSub, Int.reduceMul, Int.reduceNeg]
  all_goals intro b3
  all_goals try simp only [go_sem, reduceIte, Nat.reduceEqDiff, Nat.reduceAdd, Nat.reduceSub, Nat.reduceMul, Nat.reduceLT, Nat.reduceLeDiff, Nat.reducePow, Int.reduceToNat, Int.reduceLT, Int.reduceLE, Int.reduceEq, Int.reduceNe, Int.reduceAdd, Int.reduceSub, Int.reduceMul, Int.reduceNeg, el, es, eb]
  all_goals refine ⟨by omega, fun t' => ⟨by omega, fun t'' _ => ?_⟩⟩
  · subst fs fk
    exact finK_drop ⟨by simp [D.er, D.er1, bs], rfl, rfl⟩
  · subst fs fk
    rw [show bs b ++ [D.int .u8 (1 % 256)] = bs (b ++ [1]) from by simp [bs]]
    simp only [List.flatMap_nil, List.append_nil, List.length_cons, List.length_append] at hb
    refine cK_t0 (refS_ok _ (b ++ [1]) id i1 (by simp only [List.length_append, List.length_cons, List.length_nil]; omega)) fun t3 _ => ?_
    try simp only [go_sem, reduceIte, Nat.reduceEqDiff, Nat.reduceAdd, Nat.reduceSub, Nat.reduceMul, Nat.reduceLT, Nat.reduceLeDiff, Nat.reducePow, Int.reduceToNat, Int.reduceLT, Int.reduceLE, Int.reduceEq, Int.reduceNe, Int.reduceAdd, Int.reduceSub, Int.reduceMul, Int.reduceNeg, el, es, eb]
    refine cE_t0 (refS_ok _ (b ++ [1] ++ enc (zig id)) lo i2 (by simp only [List.length_append, List.length_cons, List.length_nil]; omega)) fun t4 _ => ?_
    try simp only [go_sem, reduceIte, Nat.reduceEqDiff, Nat.reduceAdd, Nat.reduceSub, Nat.reduceMul, Nat.reduceLT, Nat.reduceLeDiff, Nat.reducePow, Int.reduceToNat, Int.reduceLT, Int.reduceLE, Int.reduceEq, Int.reduceNe, Int.reduceAdd, Int.reduceSub, Int.reduceMul, Int.reduceNeg, el, es, eb]
    refine cE_t0 (refS_ok _ (b ++ [1] ++ enc (zig id) ++ enc (zig lo)) hi i3 (by simp only [List.length_append, List.length_cons, List.length_nil]; omega)) fun t5 _ => ?_
    try simp only [go_sem, reduceIte, Nat.reduceEqDiff, Nat.reduceAdd, Nat.reduceSub, Nat.reduceMul, Nat.reduceLT, Nat.reduceLeDiff, Nat.reducePow, Int.reduceToNat, Int.reduceLT, Int.reduceLE, Int.reduceEq, Int.reduceNe, Int.reduceAdd, Int.reduceSub, Int.reduceMul, Int.reduceNeg, el, es, eb]
    exact finK_drop ⟨by simp [D.er, D.er1], rfl, rfl⟩
  · subst fk
    rw [show bs b ++ [D.int .u8 (2 % 256)] = bs (b ++ [2]) from by simp [bs]]
    simp only [List.flatMap_nil, List.append_nil, List.length_cons, List.length_append] at hb
    have l4 := enc_len (n := set.length) (by omega)
    refine cK_t0 (refS_ok _ (b ++ [2]) id i1 (by simp only [List.length_append, List.length_cons, List.length_nil]; omega)) fun t3 _ => ?_
    try simp only [go_sem, reduceIte, Nat.reduceEqDiff, Nat.reduceAdd, Nat.reduceSub, Nat.reduceMul, Nat.reduceLT, Nat.reduceLeDiff, Nat.reducePow, Int.reduceToNat, Int.reduceLT, Int.reduceLE, Int.reduceEq, Int.reduceNe, Int.reduceAdd, Int.reduceSub, Int.reduceMul, Int.reduceNeg, el, es, eb]
    have em : ((set.length : Nat) : Int) % 18446744073709551616 = (set.length : Nat) := Int.emod_eq_of_lt (by omega) (by omega)
    rw [em]
    refine cK_t0 (refU_ok _ (b ++ [2] ++ enc (zig id)) set.length (by omega) (by simp only [List.length_append, List.length_cons, List.length_nil]; omega)) fun t4 _ => ?_
    obtain ⟨A, hA⟩ : ∃ A, b ++ [2] ++ enc (zig id) ++ enc set.length = A := ⟨_, rfl⟩
    have hAl : A.length + (set.flatMap encVl).length ≤ 2^40 := by
      rw [← hA]; simp only [List.length_append, List.length_cons, List.length_nil]; omega
    have hres : b ++ 2 :: (enc (zig id) ++ (enc set.length ++ (set.flatMap encVl ++ List.flatMap encP []))) = A ++ set.flatMap encVl := by rw [← hA]; simp
    rw [hA]
    try simp only [go_sem, reduceIte, Nat.reduceEqDiff, Nat.reduceAdd, Nat.reduceSub, Nat.reduceMul, Nat.reduceLT, Nat.reduceLeDiff, Nat.reducePow, Int.reduceToNat, Int.reduceLT, Int.reduceLE, Int.reduceEq, Int.reduceNe, Int.reduceAdd, Int.reduceSub, Int.reduceMul, Int.reduceNeg, el, es, eb]
    generalize hβ : Heap.set _ b3 _ = β0
    have e3 := hit_set hβ
    clear hβ
    refine vwq_loop (fun v => ∃ (j t : Nat), j ≤ set.length ∧ t ∈ v.ω ∧ v.σ 3 = .pb b3 0 ∧ v.σ 5 = .sl (.live t 1) (bs (A ++ (set.take j).flatMap encVl)) ∧ v.σ 6 = .int .i64 j ∧ v.β = β0) (fun v => set.length - (ival (v.σ 6)).toNat) ⟨0, t4, by omega, by simp, rfl, by rw [List.take_zero, List.flatMap_nil, List.append_nil]; rfl, rfl, rfl⟩ ?_
    rintro σ β ω ⟨j, t, hj, ht, q3, q5, q6, rfl⟩
    dsimp only at ht q3 q5 q6 e3
    obtain ⟨C, hC⟩ : ∃ C, A ++ (set.take j).flatMap encVl = C := ⟨_, rfl⟩
    rw [hC] at q5
    have hto : tokOk 1 ω (.live t 1) = True := by simp [tokOk, ht]
    try simp only [go_sem, reduceIte, Nat.reduceEqDiff, Nat.reduceAdd, Nat.reduceSub, Nat.reduceMul, Nat.reduceLT, Nat.reduceLeDiff, Nat.reducePow, Int.reduceToNat, Int.reduceLT, Int.reduceLE, Int.reduceEq, Int.reduceNe, Int.reduceAdd, Int.reduceSub, Int.reduceMul, Int.reduceNeg, q3, q5, q6, e3, es]
    refine cd_dec (fun g => ?_) (fun g => ?_)
    · have g' := eq_true g
      obtain ⟨v, hx, ex⟩ := Vl_at (l := set) (j := j) (by omega)
      have c1 : ((0 : Int) ≤ j) = True := eq_true (by omega)
      have wj := wrap_i64 (x := (j : Int) + 1) (by omega) (by omega)
      have hvn := i4 v (List.mem_of_getElem? hx)
      have hvs := v200 v (List.mem_of_getElem? hx)
      have hft := fm_take (f := encVl) hx
      have hle := fm_take_le encVl set (j + 1)
      have hev := congrArg List.length (encVl_eq v)
      have hfl := congrArg List.length hft
      simp only [List.length_append, List.length_cons, List.length_nil] at hev hfl
      have hss := sb_length v.s
      have hCl := congrArg List.length hC
      rw [List.length_append] at hCl
      have eC : (bs C).length = C.length := bs_length C
      have hstep : ∀ t3 : Nat, D.sl (.live t3 1) (bs (C ++ [bit v.null] ++ enc (zig v.n) ++ enc v.s.size ++ sb v.s)) = .sl (.live t3 1) (bs (A ++ (set.take (j + 1)).flatMap encVl)) := fun t3 => by
        rw [hft, ← List.append_assoc, hC, encVl_eq]; simp only [List.append_assoc]
      cases hn : v.null
      all_goals
        rw [hn] at hstep
        try simp only [go_sem, reduceIte, Nat.reduceEqDiff, Nat.reduceAdd, Nat.reduceSub, Nat.reduceMul, Nat.reduceLT, Nat.reduceLeDiff, Nat.reducePow, Int.reduceToNat, Int.reduceLT, Int.reduceLE, Int.reduceEq, Int.reduceNe, Int.reduceAdd, Int.reduceSub, Int.reduceMul, Int.reduceNeg, q3, q5, q6, e3, es, g', c1, ex, hn, hto, eC]
        refine ⟨by omega, fun t1 _ => ?_⟩
        first
          | rw [show bs C ++ [D.int .u8 0] = bs (C ++ [bit false]) from by simp [bs, bit]]
          | rw [show bs C ++ [D.int .u8 1] = bs (C ++ [bit true]) from by simp [bs, bit]]
        refine cE_t0 (refS_ok _ _ v.n hvn (by simp only [List.length_append, List.length_cons, List.length_nil]; omega)) fun t2 _ => ?_
        try simp only [go_sem, reduceIte, Nat.reduceEqDiff, Nat.reduceAdd, Nat.reduceSub, Nat.reduceMul, Nat.reduceLT, Nat.reduceLeDiff, Nat.reducePow, Int.reduceToNat, Int.reduceLT, Int.reduceLE, Int.reduceEq, Int.reduceNe, Int.reduceAdd, Int.reduceSub, Int.reduceMul, Int.reduceNeg, q3, q5, q6, e3, es, g', c1, ex, hn]
        refine cE_t0 (refText_ok _ _ v.s (by omega) (by simp only [List.length_append, List.length_cons, List.length_nil]; omega)) fun t3 _ => ?_
        try simp only [go_sem, reduceIte, Nat.reduceEqDiff, Nat.reduceAdd, Nat.reduceSub, Nat.reduceMul, Nat.reduceLT, Nat.reduceLeDiff, Nat.reducePow, Int.reduceToNat, Int.reduceLT, Int.reduceLE, Int.reduceEq, Int.reduceNe, Int.reduceAdd, Int.reduceSub, Int.reduceMul, Int.reduceNeg, q3, q5, q6, e3, es, g', c1, ex, hn, wj]
        exact ⟨⟨j + 1, t3, by omega, by simp, hstep t3, rfl⟩, by omega⟩
    · try simp only [go_sem, reduceIte, Nat.reduceEqDiff, Nat.reduceAdd, Nat.reduceSub, Nat.reduceMul, Nat.reduceLT, Nat.reduceLeDiff, Nat.reducePow, Int.reduceToNat, Int.reduceLT, Int.reduceLE, Int.reduceEq, Int.reduceNe, Int.reduceAdd, Int.reduceSub, Int.reduceMul, Int.reduceNeg, q3, q5, q6, e3, es]
      refine finK_drop ⟨?_, rfl, rfl⟩
      rw [hres, ← hC, List.take_of_length_le (by omega)]; rfl
  · subst fs fk
    rw [show bs b ++ [D.int .u8 (3 % 256)] = bs (b ++ [3]) from by simp [bs]]
    simp only [List.flatMap_nil, List.append_nil, List.length_cons, List.length_append] at hb
    refine cK_t0 (refS_ok _ (b ++ [3]) id i1 (by simp only [List.length_append, List.length_cons, List.length_nil]; omega)) fun t3 _ => ?_
    try simp only [go_sem, reduceIte, Nat.reduceEqDiff, Nat.reduceAdd, Nat.reduceSub, Nat.reduceMul, Nat.reduceLT, Nat.reduceLeDiff, Nat.reducePow, Int.reduceToNat, Int.reduceLT, Int.reduceLE, Int.reduceEq, Int.reduceNe, Int.reduceAdd, Int.reduceSub, Int.reduceMul, Int.reduceNeg, el, es, eb]
    have hts := sb_length text
    refine cK_t0 (refText_ok _ (b ++ [3] ++ enc (zig id)) text (by omega) (by simp only [List.length_append, List.length_cons, List.length_nil]; omega)) fun t4 _ => ?_
    try simp only [go_sem, reduceIte, Nat.reduceEqDiff, Nat.reduceAdd, Nat.reduceSub, Nat.reduceMul, Nat.reduceLT, Nat.reduceLeDiff, Nat.reducePow, Int.reduceToNat, Int.reduceLT, Int.reduceLE, Int.reduceEq, Int.reduceNe, Int.reduceAdd, Int.reduceSub, Int.reduceMul, Int.reduceNeg, el, es, eb]
    exact finK_drop ⟨by simp [D.er, D.er1], rfl, rfl⟩
  · subst fs fk
    rw [show bs b ++ [D.int .u8 (4 % 256)] = bs (b ++ [4]) from by simp [bs]]
    refine cK_t0 (refS_ok _ (b ++ [4]) id i1 (by simp only [List.length_append, List.length_cons, List.length_nil]; omega)) fun t3 _ => ?_
    try simp only [go_sem, reduceIte, Nat.reduceEqDiff, Nat.reduceAdd, Nat.reduceSub, Nat.reduceMul, Nat.reduceLT, Nat.reduceLeDiff, Nat.reducePow, Int.reduceToNat, Int.reduceLT, Int.reduceLE, Int.reduceEq, Int.reduceNe, Int.reduceAdd, Int.reduceSub, Int.reduceMul, Int.reduceNeg, el, es, eb]
    exact finK_drop ⟨by simp [D.er, D.er1], rfl, rfl⟩
  · subst fs
    rw [show bs b ++ [D.int .u8 (5 % 256)] = bs (b ++ [5]) from by simp [bs]]
    simp only [List.length_cons, List.length_append] at hb
    have l4 := enc_len (n := kids.length) (by omega)
    have em : ((kids.length : Nat) : Int) % 18446744073709551616 = (kids.length : Nat) := Int.emod_eq_of_lt (by omega) (by omega)
    rw [em]
    refine cK_t0 (refU_ok _ (b ++ [5]) kids.length (by omega) (by simp only [List.length_append, List.length_cons, List.length_nil]; omega)) fun t4 _ => ?_
    obtain ⟨A, hA⟩ : ∃ A, b ++ [5] ++ enc kids.length = A := ⟨_, rfl⟩
    have hAl : A.length + (kids.flatMap encP).length ≤ 2^40 := by
      rw [← hA]; simp only [List.length_append, List.length_cons, List.length_nil]; omega
    have hres : b ++ 5 :: (enc kids.length ++ kids.flatMap encP) = A ++ kids.flatMap encP := by rw [← hA]; simp
    rw [hA]
    try simp only [go_sem, reduceIte, Nat.reduceEqDiff, Nat.reduceAdd, Nat.reduceSub, Nat.reduceMul, Nat.reduceLT, Nat.reduceLeDiff, Nat.reducePow, Int.reduceToNat, Int.reduceLT, Int.reduceLE, Int.reduceEq, Int.reduceNe, Int.reduceAdd, Int.reduceSub, Int.reduceMul, Int.reduceNeg, el, es, eb]
    generalize hβ : Heap.set _ b3 _ = β0
    have e3 := hit_set hβ
    clear hβ
    refine vwq_loop (fun v => ∃ (j : Nat) (t : Tk), j ≤ kids.length ∧ v.σ 3 = .pb b3 0 ∧ v.σ 5 = .sl t (bs (A ++ (kids.take j).flatMap encP)) ∧ v.σ 8 = .int .i64 j ∧ v.β = β0) (fun v => kids.length - (ival (v.σ 8)).toNat) ⟨0, .live t4 1, by omega, rfl, by rw [List.take_zero, List.flatMap_nil, List.append_nil]; rfl, rfl, rfl⟩ ?_
    rintro σ β ω ⟨j, t, hj, q3, q5, q8, rfl⟩
    dsimp only at q3 q5 q8 e3
    try simp only [go_sem, reduceIte, Nat.reduceEqDiff, Nat.reduceAdd, Nat.reduceSub, Nat.reduceMul, Nat.reduceLT, Nat.reduceLeDiff, Nat.reducePow, Int.reduceToNat, Int.reduceLT, Int.reduceLE, Int.reduceEq, Int.reduceNe, Int.reduceAdd, Int.reduceSub, Int.reduceMul, Int.reduceNeg, q3, q5, q8, e3, el]
    refine cd_dec (fun g => ?_) (fun g => ?_)
    · have g' := eq_true g
      obtain ⟨k, hx, ex⟩ := Pr_at (l := kids) (j := j) (by omega)
      have c1 : ((0 : Int) ≤ j) = True := eq_true (by omega)
      have wj := wrap_i64 (x := (j : Int) + 1) (by omega) (by omega)
      have hft := fm_take (f := encP) hx
      have hle := fm_take_le encP kids (j + 1)
      have hfl := congrArg List.length hft
      rw [List.length_append] at hfl
      have hk := ih k (List.mem_of_getElem? hx) t (A ++ (kids.take j).flatMap encP) (by rw [List.length_append]; omega)
      simp only [Pr.cells] at hk
      try simp only [go_sem, reduceIte, Nat.reduceEqDiff, Nat.reduceAdd, Nat.reduceSub, Nat.reduceMul, Nat.reduceLT, Nat.reduceLeDiff, Nat.reducePow, Int.reduceToNat, Int.reduceLT, Int.reduceLE, Int.reduceEq, Int.reduceNe, Int.reduceAdd, Int.reduceSub, Int.reduceMul, Int.reduceNeg, q3, q5, q8, e3, el, g', c1, ex]
      refine cK_vn hk ?_
      try simp only [go_sem, reduceIte, Nat.reduceEqDiff, Nat.reduceAdd, Nat.reduceSub, Nat.reduceMul, Nat.reduceLT, Nat.reduceLeDiff, Nat.reducePow, Int.reduceToNat, Int.reduceLT, Int.reduceLE, Int.reduceEq, Int.reduceNe, Int.reduceAdd, Int.reduceSub, Int.reduceMul, Int.reduceNeg, q3, q5, q8, e3, el, g', c1, ex, wj]
      exact ⟨⟨j + 1, .none, by omega, by rw [hft, List.append_assoc], rfl⟩, by omega⟩
    · try simp only [go_sem, reduceIte, Nat.reduceEqDiff, Nat.reduceAdd, Nat.reduceSub, Nat.reduceMul, Nat.reduceLT, Nat.reduceLeDiff, Nat.reducePow, Int.reduceToNat, Int.reduceLT, Int.reduceLE, Int.reduceEq, Int.reduceNe, Int.reduceAdd, Int.reduceSub, Int.reduceMul, Int.reduceNeg, q3, q5, q8, e3, el]
      refine finK_drop ⟨?_, rfl, rfl⟩
      rw [hres, List.take_of_length_le (by omega)]; rfl
  · subst fs
    rw [show bs b ++ [D.int .u8 (6 % 256)] = bs (b ++ [6]) from by simp [bs]]
    simp only [List.length_cons, List.length_append] at hb
    have l4 := enc_len (n := kids.length) (by omega)
    have em : ((kids.length : Nat) : Int) % 18446744073709551616 = (kids.length : Nat) := Int.emod_eq_of_lt (by omega) (by omega)
    rw [em]
    refine cK_t0 (refU_ok _ (b ++ [6]) kids.length (by omega) (by simp only [List.length_append, List.length_cons, List.length_nil]; omega)) fun t4 _ => ?_
    obtain ⟨A, hA⟩ : ∃ A, b ++ [6] ++ enc kids.length = A := ⟨_, rfl⟩
    have hAl : A.length + (kids.flatMap encP).length ≤ 2^40 := by
      rw [← hA]; simp only [List.length_append, List.length_cons, List.length_nil]; omega
    have hres : b ++ 6 :: (enc kids.length ++ kids.flatMap encP) = A ++ kids.flatMap encP := by rw [← hA]; simp
    rw [hA]
    try simp only [go_sem, reduceIte, Nat.reduceEqDiff, Nat.reduceAdd, Nat.reduceSub, Nat.reduceMul, Nat.reduceLT, Nat.reduceLeDiff, Nat.reducePow, Int.reduceToNat, Int.reduceLT, Int.reduceLE, Int.reduceEq, Int.reduceNe, Int.reduceAdd, Int.reduceSub, Int.reduceMul, Int.reduceNeg, el, es, eb]
    generalize hβ : Heap.set _ b3 _ = β0
    have e3 := hit_set hβ
    clear hβ
    refine vwq_loop (fun v => ∃ (j : Nat) (t : Tk), j ≤ kids.length ∧ v.σ 3 = .pb b3 0 ∧ v.σ 5 = .sl t (bs (A ++ (kids.take j).flatMap encP)) ∧ v.σ 8 = .int .i64 j ∧ v.β = β0) (fun v => kids.length - (ival (v.σ 8)).toNat) ⟨0, .live t4 1, by omega, rfl, by rw [List.take_zero, List.flatMap_nil, List.append_nil]; rfl, rfl, rfl⟩ ?_
    rintro σ β ω ⟨j, t, hj, q3, q5, q8, rfl⟩
    dsimp only at q3 q5 q8 e3
    try simp only [go_sem, reduceIte, Nat.reduceEqDiff, Nat.reduceAdd, Nat.reduceSub, Nat.reduceMul, Nat.reduceLT, Nat.reduceLeDiff, Nat.reducePow, Int.reduceToNat, Int.reduceLT, Int.reduceLE, Int.reduceEq, Int.reduceNe, Int.reduceAdd, Int.reduceSub, Int.reduceMul, Int.reduceNeg, q3, q5, q8, e3, el]
    refine cd_dec (fun g => ?_) (fun g => ?_)
    · have g' := eq_true g
      obtain ⟨k, hx, ex⟩ := Pr_at (l := kids) (j := j) (by omega)
      have c1 : ((0 : Int) ≤ j) = True := eq_true (by omega)
      have wj := wrap_i64 (x := (j : Int) + 1) (by omega) (by omega)
      have hft := fm_take (f := encP) hx
      have hle := fm_take_le encP kids (j + 1)
      have hfl := congrArg List.length hft
      rw [List.length_append] at hfl
      have hk := ih k (List.mem_of_getElem? hx) t (A ++ (kids.take j).flatMap encP) (by rw [List.length_append]; omega)
      simp only [Pr.cells] at hk
      try simp only [go_sem, reduceIte, Nat.reduceEqDiff, Nat.reduceAdd, Nat.reduceSub, Nat.reduceMul, Nat.reduceLT, Nat.reduceLeDiff, Nat.reducePow, Int.reduceToNat, Int.reduceLT, Int.reduceLE, Int.reduceEq, Int.reduceNe, Int.reduceAdd, Int.reduceSub, Int.reduceMul, Int.reduceNeg, q3, q5, q8, e3, el, g', c1, ex]
      refine cK_vn hk ?_
      try simp only [go_sem, reduceIte, Nat.reduceEqDiff, Nat.reduceAdd, Nat.reduceSub, Nat.reduceMul, Nat.reduceLT, Nat.reduceLeDiff, Nat.reducePow, Int.reduceToNat, Int.reduceLT, Int.reduceLE, Int.reduceEq, Int.reduceNe, Int.reduceAdd, Int.reduceSub, Int.reduceMul, Int.reduceNeg, q3, q5, q8, e3, el, g', c1, ex, wj]
      exact ⟨⟨j + 1, .none, by omega, by rw [hft, List.append_assoc], rfl⟩, by omega⟩
    · try simp only [go_sem, reduceIte, Nat.reduceEqDiff, Nat.reduceAdd, Nat.reduceSub, Nat.reduceMul, Nat.reduceLT, Nat.reduceLeDiff, Nat.reducePow, Int.reduceToNat, Int.reduceLT, Int.reduceLE, Int.reduceEq, Int.reduceNe, Int.reduceAdd, Int.reduceSub, Int.reduceMul, Int.reduceNeg, q3, q5, q8, e3, el]
      refine finK_drop ⟨?_, rfl, rfl⟩
      rw [hres, List.take_of_length_le (by omega)]; rfl
  · subst fs
    rw [show bs b ++ [D.int .u8 (7 % 256)] = bs (b ++ [7]) from by simp [bs]]
    simp only [List.length_cons, List.length_append] at hb
    have l4 := enc_len (n := kids.length) (by omega)
    have em : ((kids.length : Nat) : Int) % 18446744073709551616 = (kids.length : Nat) := Int.emod_eq_of_lt (by omega) (by omega)
    rw [em]
    refine cK_t0 (refU_ok _ (b ++ [7]) kids.length (by omega) (by simp only [List.length_append, List.length_cons, List.length_nil]; omega)) fun t4 _ => ?_
    obtain ⟨A, hA⟩ : ∃ A, b ++ [7] ++ enc kids.length = A := ⟨_, rfl⟩
    have hAl : A.length + (kids.flatMap encP).length ≤ 2^40 := by
      rw [← hA]; simp only [List.length_append, List.length_cons, List.length_nil]; omega
    have hres : b ++ 7 :: (enc kids.length ++ kids.flatMap encP) = A ++ kids.flatMap encP := by rw [← hA]; simp
    rw [hA]
    try simp only [go_sem, reduceIte, Nat.reduceEqDiff, Nat.reduceAdd, Nat.reduceSub, Nat.reduceMul, Nat.reduceLT, Nat.reduceLeDiff, Nat.reducePow, Int.reduceToNat, Int.reduceLT, Int.reduceLE, Int.reduceEq, Int.reduceNe, Int.reduceAdd, Int.reduceSub, Int.reduceMul, Int.reduceNeg, el, es, eb]
    generalize hβ : Heap.set _ b3 _ = β0
    have e3 := hit_set hβ
    clear hβ
    refine vwq_loop (fun v => ∃ (j : Nat) (t : Tk), j ≤ kids.length ∧ v.σ 3 = .pb b3 0 ∧ v.σ 5 = .sl t (bs (A ++ (kids.take j).flatMap encP)) ∧ v.σ 8 = .int .i64 j ∧ v.β = β0) (fun v => kids.length - (ival (v.σ 8)).toNat) ⟨0, .live t4 1, by omega, rfl, by rw [List.take_zero, List.flatMap_nil, List.append_nil]; rfl, rfl, rfl⟩ ?_
    rintro σ β ω ⟨j, t, hj, q3, q5, q8, rfl⟩
    dsimp only at q3 q5 q8 e3
    try simp only [go_sem, reduceIte, Nat.reduceEqDiff, Nat.reduceAdd, Nat.reduceSub, Nat.reduceMul, Nat.reduceLT, Nat.reduceLeDiff, Nat.reducePow, Int.reduceToNat, Int.reduceLT, Int.reduceLE, Int.reduceEq, Int.reduceNe, Int.reduceAdd, Int.reduceSub, Int.reduceMul, Int.reduceNeg, q3, q5, q8, e3, el]
    refine cd_dec (fun g => ?_) (fun g => ?_)
    · have g' := eq_true g
      obtain ⟨k, hx, ex⟩ := Pr_at (l := kids) (j := j) (by omega)
      have c1 : ((0 : Int) ≤ j) = True := eq_true (by omega)
      have wj := wrap_i64 (x := (j : Int) + 1) (by omega) (by omega)
      have hft := fm_take (f := encP) hx
      have hle := fm_take_le encP kids (j + 1)
      have hfl := congrArg List.length hft
      rw [List.length_append] at hfl
      have hk := ih k (List.mem_of_getElem? hx) t (A ++ (kids.take j).flatMap encP) (by rw [List.length_append]; omega)
      simp only [Pr.cells] at hk
      try simp only [go_sem, reduceIte, Nat.reduceEqDiff, Nat.reduceAdd, Nat.reduceSub, Nat.reduceMul, Nat.reduceLT, Nat.reduceLeDiff, Nat.reducePow, Int.reduceToNat, Int.reduceLT, Int.reduceLE, Int.reduceEq, Int.reduceNe, Int.reduceAdd, Int.reduceSub, Int.reduceMul, Int.reduceNeg, q3, q5, q8, e3, el, g', c1, ex]
      refine cK_vn hk ?_
      try simp only [go_sem, reduceIte, Nat.reduceEqDiff, Nat.reduceAdd, Nat.reduceSub, Nat.reduceMul, Nat.reduceLT, Nat.reduceLeDiff, Nat.reducePow, Int.reduceToNat, Int.reduceLT, Int.reduceLE, Int.reduceEq, Int.reduceNe, Int.reduceAdd, Int.reduceSub, Int.reduceMul, Int.reduceNeg, q3, q5, q8, e3, el, g', c1, ex, wj]
      exact ⟨⟨j + 1, .none, by omega, by rw [hft, List.append_assoc], rfl⟩, by omega⟩
    · try simp only [go_sem, reduceIte, Nat.reduceEqDiff, Nat.reduceAdd, Nat.reduceSub, Nat.reduceMul, Nat.reduceLT, Nat.reduceLeDiff, Nat.reducePow, Int.reduceToNat, Int.reduceLT, Int.reduceLE, Int.reduceEq, Int.reduceNe, Int.reduceAdd, Int.reduceSub, Int.reduceMul, Int.reduceNeg, q3, q5, q8, e3, el]
      refine finK_drop ⟨?_, rfl, rfl⟩
      rw [hres, List.take_of_length_le (by omega)]; rfl
theorem put_ok : ∀ (n : Nat) (p : Pr), SizeOf.sizeOf p ≤ n → (∀ q ∈ subs p, FormP q ∧ PI q) → ∀ (tk : Tk) (b : List Nat), b.length + (encP p).length ≤ 2^40 → VN P G 60 [.sl tk (bs b), .agg p.cells] (.sl .none (bs (b ++ encP p)))
  | 0, p, h, _, _, _, _ => by cases p; simp at h
  | n + 1, p, h, hq, tk, b, hb => by
    have h0 := hq p (by rw [subs_eq]; simp)
    exact put_step p h0.1 h0.2 tk b hb fun k hk tk b hb => put_ok n k (Nat.le_of_lt_succ (Nat.lt_of_lt_of_le (Pr.kid_lt hk) h)) (fun q hqk => hq q (by
      rw [subs_eq, subsL_flat]; exact List.mem_cons_of_mem _ (List.mem_flatMap.2 ⟨k, hk, hqk⟩))) tk b hb
theorem rEncode_ok (tk : Tk) (b : List Nat) (p : Pr) (hb : b.length ≤ 2^38) (hn : (subs p).length ≤ 4000000) (hi : ∀ q ∈ subs p, PI q) : VN P G 24 [.sl tk (bs b), .agg p.cells] (.sl .none (bs (b ++ if wellF p then encP p else []))) := by
  have h1 := Formed_ok (G := G) p
  have eb : (bs b).length = b.length := bs_length b
  unfold VN
  refine VC.ofs (fun | 99999999 => [(0, [0, 1, 3, 4, 7])] | _ => []) [4] mixed Tryz.func24 rfl rfl rfl rfl (by decide +kernel) (by simp) ?_
  simp only [go_sem, reduceIte, Nat.reduceEqDiff, Nat.reduceAdd, Nat.reduceSub, Nat.reduceMul, Nat.reduceLT, Nat.reduceLeDiff, Nat.reducePow, Int.reduceToNat, Int.reduceLT, Int.reduceLE, Int.reduceEq, Int.reduceNe, Int.reduceAdd, Int.reduceSub, Int.reduceMul, Int.reduceNeg]
  intro b3
  refine cK_vn h1 ?_
  cases hw : wellF p
  · try simp only [go_sem, reduceIte, Nat.reduceEqDiff, Nat.reduceAdd, Nat.reduceSub, Nat.reduceMul, Nat.reduceLT, Nat.reduceLeDiff, Nat.reducePow, Int.reduceToNat, Int.reduceLT, Int.reduceLE, Int.reduceEq, Int.reduceNe, Int.reduceAdd, Int.reduceSub, Int.reduceMul, Int.reduceNeg, eb]
    refine ⟨by omega, fun t' => ?_⟩
    exact finK_drop ⟨by simp [D.er, D.er1], rfl, rfl⟩
  · try simp only [go_sem, reduceIte, Nat.reduceEqDiff, Nat.reduceAdd, Nat.reduceSub, Nat.reduceMul, Nat.reduceLT, Nat.reduceLeDiff, Nat.reducePow, Int.reduceToNat, Int.reduceLT, Int.reduceLE, Int.reduceEq, Int.reduceNe, Int.reduceAdd, Int.reduceSub, Int.reduceMul, Int.reduceNeg, eb]
    have hE : (encP p).length ≤ (subs p).length * 4000 := encHs_len hi (wellF_form hw)
    refine cK_vn (put_ok _ p (Nat.le_refl _) (fun q hq => ⟨wellF_form hw q hq, hi q hq⟩) tk b (by omega)) ?_
    try simp only [go_sem, reduceIte, Nat.reduceEqDiff, Nat.reduceAdd, Nat.reduceSub, Nat.reduceMul, Nat.reduceLT, Nat.reduceLeDiff, Nat.reducePow, Int.reduceToNat, Int.reduceLT, Int.reduceLE, Int.reduceEq, Int.reduceNe, Int.reduceAdd, Int.reduceSub, Int.reduceMul, Int.reduceNeg, eb]
    exact finK_drop ⟨by simp [D.er, D.er1], rfl, rfl⟩
end Go.Proofs.YtbfkhepfgibonaaGreatS
