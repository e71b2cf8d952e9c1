/-
  Predicates: In, Between and Prefix (fenlandlaw08.PredAtoms).
-/
import Derived.Test.YtbfkhepfgibonaaQB
import Derived.Test.YtbfkhepfgibonaaQA
set_option linter.unusedVariables false
set_option linter.unusedSimpArgs false
namespace Go.Proofs.YtbfkhepfgibonaaS
open Go Go.Proofs.YtbfkhepfgibonaaV

variable {G : Heap}
attribute [local irreducible] VN VC VX VQ VY VW VTA

def inP (id : Int) (set : List Vl) : Pr := .mk 2 id 0 0 set ByteArray.empty []
def pfP (id : Int) (t : ByteArray) : Pr := .mk 3 id 0 0 [] t []
theorem atoms_fin {a b : Int} (h1 : a = 1 → b = 1) (h2 : a = 2 ↔ b = 2) : (decide (a ≠ 1 ∨ b = 1) && (decide (a = 2) == decide (b = 2))) = true := by
  rw [Bool.and_eq_true]
  have h3 : decide (a = 2) = decide (b = 2) := by simp [h2]
  refine ⟨decide_eq_true ?_, by rw [h3, beq_self_eq_true]⟩
  by_cases h : a = 1
  · exact .inr (h1 h)
  · exact .inl h
theorem inP_d (id : Int) (set : List Vl) : (inP id set).d = .agg [.int .i64 2, .int .i64 id, .int .i64 0, .int .i64 0, .sl .none (set.map Vl.d), .str ByteArray.empty, .sl .none []] := by rw [Pr.d_eq]; rfl
theorem ev_in (r : Rw) (id : Int) (set : List Vl) : evalP r (inP id set) = if (valV r id).null = true then 2 else truth (within (valV r id) set) := by
  rw [evalP_eq]; rfl
theorem ev_pf (r : Rw) (id : Int) (t : ByteArray) : evalP r (pfP id t) = if (valV r id).null = true then 2 else truth (pre (valV r id).s t) := by
  rw [evalP_eq]; rfl
theorem ev_bt (r : Rw) (id lo hi : Int) : evalP r (btP id lo hi) = if (valV r id).null = true then 2 else truth (decide (lo ≤ (valV r id).n) && decide ((valV r id).n ≤ hi)) := by
  rw [evalP_eq]; rfl
theorem truth_one (b : Bool) : truth b = 1 ↔ b = true := by cases b <;> simp [truth]
theorem truth_two (b : Bool) : truth b ≠ 2 := by cases b <;> simp [truth]
theorem atoms_in (r : Rw) (id : Int) (set : List Vl) (h : set ≠ []) : evalP r (inP id set) = evalP r (opP 6 (set.map fun v => inP id [v])) := by
  have h012 : ∀ t ∈ (set.map fun v => inP id [v]).map (evalP r), t = 0 ∨ t = 1 ∨ t = 2 := fun t ht => by
    obtain ⟨q, _, rfl⟩ := List.mem_map.1 ht; exact eval012 _ _
  rw [ev_op _ 6 _ (.inr (.inl rfl)), evK_or _ h012, someF_or _ _ (.inl rfl) h012, ev_in, List.map_map]
  by_cases k : (valV r id).null = true
  · rw [if_pos k]
    have e : (evalP r ∘ fun v => inP id [v]) = fun _ => (2 : Int) := by funext v; simp [ev_in, k]
    rw [e, if_neg (by simp), if_pos]
    obtain ⟨x, l, rfl⟩ := List.exists_cons_of_ne_nil h
    simp
  · rw [if_neg k]
    have e : (evalP r ∘ fun v => inP id [v]) = fun v => truth (within (valV r id) [v]) := by funext v; simp [ev_in, k]
    rw [e]
    have h2 : (2 : Int) ∉ set.map fun v => truth (within (valV r id) [v]) := fun hm => by
      obtain ⟨v, _, hv⟩ := List.mem_map.1 hm
      exact truth_two _ hv
    have h1 : (1 : Int) ∈ (set.map fun v => truth (within (valV r id) [v])) ↔ within (valV r id) set = true := by
      simp only [List.mem_map, truth_one]
      unfold within
      simp [List.any_eq_true]
    by_cases w : within (valV r id) set = true
    · rw [if_pos (h1.2 w), w]; rfl
    · rw [if_neg (fun hm => w (h1.1 hm)), if_neg h2]
      simp only [Bool.not_eq_true] at w
      rw [w]; rfl
theorem valV_I {r : Rw} (h : ∀ c ∈ r, I64' c.2.n) (id : Int) : I64' (valV r id).n := by
  induction r with
  | nil => exact (show I64' 0 from ⟨by decide, by decide⟩)
  | cons c r ih =>
    rw [valV]
    split
    · exact h c (by simp)
    · exact ih fun x hx => h x (by simp [hx])
theorem atoms_bt (r : Rw) (id lo hi : Int) (h : ∀ c ∈ r, I64' c.2.n) : evalP r (btP id lo hi) = evalP r (opP 5 [btP id lo 9223372036854775807, btP id (-9223372036854775808) hi]) := by
  have hv := valV_I h id
  rw [ev_op _ 5 _ (.inl rfl)]
  simp only [List.map_cons, List.map_nil, ev_bt]
  obtain ⟨h1, h2⟩ := hv
  by_cases k : (valV r id).null = true
  · simp only [if_pos k]; rfl
  · simp only [if_neg k]
    have e1 : decide ((valV r id).n ≤ 9223372036854775807) = true := decide_eq_true (by omega)
    have e2 : decide (-9223372036854775808 ≤ (valV r id).n) = true := decide_eq_true h1
    rw [e1, e2, Bool.and_true, Bool.true_and]
    cases decide (lo ≤ (valV r id).n) <;> cases decide ((valV r id).n ≤ hi) <;> rfl
theorem pre_cut {s t : ByteArray} {k : Nat} (h : pre s t = true) : pre s (t.extract 0 k) = true := by
  unfold pre at h ⊢
  have h1 := of_decide_eq_true h
  refine decide_eq_true ?_
  refine List.IsPrefix.trans ?_ h1
  rw [ByteArray.data_extract, Array.toList_extract]
  simp [List.take_prefix]
theorem atoms_pf (r : Rw) (id : Int) (t : ByteArray) (k : Nat) : (evalP r (pfP id t) = 1 → evalP r (pfP id (t.extract 0 k)) = 1) ∧ (evalP r (pfP id t) = 2 ↔ evalP r (pfP id (t.extract 0 k)) = 2) := by
  simp only [ev_pf]
  by_cases n : (valV r id).null = true
  · simp [n]
  · simp only [if_neg n, truth_one]
    exact ⟨pre_cut, ⟨fun h => absurd h (truth_two _), fun h => absurd h (truth_two _)⟩⟩
theorem eq_in (r : Rw) (id : Int) (set : List Vl) (qs : List Pr) (t1 t2 t3 t4 : Tk) (h : evalP r (inP id set) = evalP r (opP 6 qs)) : VN P G 11 [.agg [.int .i64 2, .int .i64 id, .int .i64 0, .int .i64 0, .sl t1 (set.map Vl.d), .str ByteArray.empty, .sl t2 []], .agg [.int .i64 6, .int .i64 0, .int .i64 0, .int .i64 0, .sl t3 [], .str ByteArray.empty, .sl t4 (qs.map Pr.d)], .agg [.sl .none (r.map clD)]] (.bool true) := by
  refine VN.er ?_
  have h0 := equal_ok (G := G) (inP id set) (opP 6 qs) r
  rw [decide_eq_true h] at h0
  have e1 : (set.map Vl.d).map D.er = set.map Vl.d := by rw [List.map_map]; rfl
  have e2 : (qs.map Pr.d).map D.er = qs.map Pr.d := by
    rw [List.map_map]
    exact List.map_congr_left fun q _ => by show D.er q.d = q.d; rw [q.d_eq]; rfl
  have e3 : (r.map clD).map D.er = r.map clD := by rw [List.map_map]; rfl
  simpa [D.er, D.er1, e1, e2, e3, Pr.cells, inP, opP, Pr.op, Pr.id, Pr.lo, Pr.hi, Pr.set, Pr.text, Pr.kids] using h0
theorem ev_pft (r : Rw) (id : Int) (s : ByteArray) (t1 t2 : Tk) : VN P G 14 [.agg [.int .i64 3, .int .i64 id, .int .i64 0, .int .i64 0, .sl t1 [], .str s, .sl t2 []], .agg [.sl .none (r.map clD)]] (.int .i64 (evalP r (pfP id s))) := by
  refine VN.er ?_
  have h0 := pEval_ok (G := G) r (pfP id s)
  have e3 : (r.map clD).map D.er = r.map clD := by rw [List.map_map]; rfl
  simpa [D.er, D.er1, e3, Pr.cells, pfP, Pr.op, Pr.id, Pr.lo, Pr.hi, Pr.set, Pr.text, Pr.kids] using h0
set_option maxRecDepth 100000 in
set_option maxHeartbeats 8000000 in
theorem atoms_ok (p : Pr) (r : Rw) (n : Nat) (hI : ∀ c ∈ r, I64' c.2.n) (hn : n < 256) : VN P G 7 [.agg p.cells, .agg [.sl .none (r.map clD)], .int .u8 n] (.bool true) := by
  have hs := law08_sanity_ok (G := G)
  have z1 := atoms_in r p.id p.set
  have z2 := atoms_bt r p.id p.lo p.hi hI
  obtain ⟨z3, z4⟩ := atoms_pf r p.id p.text (min p.text.size n)
  unfold VN
  refine VC.ofs (fun | 9 => [(0, []), (1, []), (2, []), (3, []), (4, []), (5, []), (6, []), (7, []), (8, []), (9, []), (10, []), (11, []), (12, []), (13, []), (14, [])] | 12 => [(0, []), (1, []), (2, []), (3, []), (5, []), (6, [4]), (7, []), (8, [4]), (4, [10, 11]), (9, [10, 11]), (10, []), (11, []), (12, []), (13, [])] | 14 => [(0, []), (1, []), (2, []), (3, []), (4, []), (5, []), (6, []), (7, []), (8, []), (9, []), (10, []), (11, []), (12, []), (13, [])] | 15 => [(0, []), (1, []), (3, [2]), (4, [2]), (2, []), (5, []), (6, []), (7, [])] | 16 => [(0, []), (1, []), (2, []), (3, []), (4, []), (5, []), (7, [6]), (8, [6]), (9, []), (11, [6, 10]), (6, []), (10, []), (12, []), (13, []), (14, []), (15, []), (16, []), (17, []), (18, []), (19, []), (20, []), (21, []), (22, []), (23, []), (24, []), (25, []), (26, []), (27, []), (28, []), (29, []), (30, []), (31, [])] | 99999999 => [(0, [0, 1, 2, 3, 4, 6, 7, 8, 9, 10, 11, 12, 13, 14, 15, 16, 33, 45, 72])] | _ => []) [6] mixed Try.func7 rfl rfl rfl rfl (by decide +kernel) (by simp) ?_
  have er : (r.map clD).length = r.length := by simp
  have es : (p.set.map Vl.d).length = p.set.length := by simp
  simp only [go_sem, reduceIte, Nat.reduceEqDiff, Nat.reduceAdd, Nat.reduceSub, Nat.reduceMul, Nat.reduceLT, Nat.reduceLeDiff, Nat.reducePow, Int.reduceToNat, Int.reduceLT, Int.reduceLE, Int.reduceEq, Int.reduceNe, Int.reduceAdd, Int.reduceSub, Int.reduceMul, Int.reduceNeg]
  refine fun b3 => new_1 fun b4 q1 q2 => ?_
  have N := And.intro q1 q2
  generalize hβ : Heap.set _ b4 _ = β0
  have e3 : β0 b3 = some p.cells := by rw [← hβ]; simp [Heap.set, N]
  have e4 : β0 b4 = some [.sl .none (r.map clD)] := hit_set hβ
  clear hβ
  refine cK_vn hs ?_
  try simp only [go_sem, reduceIte, Nat.reduceEqDiff, Nat.reduceAdd, Nat.reduceSub, Nat.reduceMul, Nat.reduceLT, Nat.reduceLeDiff, Nat.reducePow, Int.reduceToNat, Int.reduceLT, Int.reduceLE, Int.reduceEq, Int.reduceNe, Int.reduceAdd, Int.reduceSub, Int.reduceMul, Int.reduceNeg, N, e3, e4, er, es]
  refine cd_dec (fun _ => ?_) (fun hg => ?_)
  · try simp only [go_sem, reduceIte, Nat.reduceEqDiff, Nat.reduceAdd, Nat.reduceSub, Nat.reduceMul, Nat.reduceLT, Nat.reduceLeDiff, Nat.reducePow, Int.reduceToNat, Int.reduceLT, Int.reduceLE, Int.reduceEq, Int.reduceNe, Int.reduceAdd, Int.reduceSub, Int.reduceMul, Int.reduceNeg, N, e3, e4, er, es]
    exact finK_drop ⟨rfl, rfl, rfl⟩
  have hs60 : p.set.length ≤ 60 := by omega
  have hwn : IntKind.i64.wrap (n : Int) = n := wrap_i64 (by omega) (by omega)
  have z2' := decide_eq_true z2
  have hm0 : (0 : Int) ≤ ((min p.text.size n : Nat) : Int) := Int.natCast_nonneg _
  have hm1 : ((min p.text.size n : Nat) : Int) ≤ (p.text.size : Nat) := Int.ofNat_le.2 (Nat.min_le_left _ _)
  have hmn : (if (n : Int) < (p.text.size : Nat) then (n : Int) else (p.text.size : Nat)) = ((min p.text.size n : Nat) : Int) := by split <;> omega
  try simp only [go_sem, reduceIte, Nat.reduceEqDiff, Nat.reduceAdd, Nat.reduceSub, Nat.reduceMul, Nat.reduceLT, Nat.reduceLeDiff, Nat.reducePow, Int.reduceToNat, Int.reduceLT, Int.reduceLE, Int.reduceEq, Int.reduceNe, Int.reduceAdd, Int.reduceSub, Int.reduceMul, Int.reduceNeg, N, e3, e4, er, es]
  have N := And.intro N trivial
  refine new_any fun b8 hb8 => ?_
  have N := And.intro N (box_ne hb8 e3)
  have N := And.intro N (box_ne hb8 e4)
  generalize hβ_ : Heap.set _ b8 _ = β_
  have e8 := hit_set hβ_
  have e3 := keep_new hβ_ hb8 e3
  have e4 := keep_new hβ_ hb8 e4
  clear hβ_ hb8
  try simp only [go_sem, reduceIte, Nat.reduceEqDiff, Nat.reduceAdd, Nat.reduceSub, Nat.reduceMul, Nat.reduceLT, Nat.reduceLeDiff, Nat.reducePow, Int.reduceToNat, Int.reduceLT, Int.reduceLE, Int.reduceEq, Int.reduceNe, Int.reduceAdd, Int.reduceSub, Int.reduceMul, Int.reduceNeg, N, e3, e4, e8]
  refine new_any fun b9 hb9 => ?_
  have N := And.intro N (box_ne hb9 e3)
  have N := And.intro N (box_ne hb9 e4)
  have N := And.intro N (box_ne hb9 e8)
  generalize hβ_ : Heap.set _ b9 _ = β_
  have e9 := hit_set hβ_
  have e3 := keep_new hβ_ hb9 e3
  have e4 := keep_new hβ_ hb9 e4
  have e8 := keep_new hβ_ hb9 e8
  clear hβ_ hb9
  obtain ⟨qs, hqs⟩ : ∃ qs, (p.set.map fun v => inP p.id [v]) = qs := ⟨_, rfl⟩
  have hql : qs.length = p.set.length := by rw [← hqs]; simp
  rw [hqs] at z1
  refine vwq_loop (fun v => ∃ (i : Nat) (t : Tk), i ≤ p.set.length ∧ TW 7 t v.ω ∧ v.β b3 = some p.cells ∧ v.β b4 = some [.sl .none (r.map clD)] ∧ v.β b8 = some [.int .i64 2, .int .i64 p.id, .int .i64 0, .int .i64 0, .sl .none (p.set.map Vl.d), .str ByteArray.empty, .sl .full []] ∧ v.β b9 = some [.int .i64 6, .int .i64 0, .int .i64 0, .int .i64 0, .sl .full [], .str ByteArray.empty, .sl t ((qs.take i).map Pr.d)] ∧ v.σ 2 = .int .u8 n ∧ v.σ 3 = .pb b3 0 ∧ v.σ 4 = .pb b4 0 ∧ v.σ 7 = .bool true ∧ v.σ 8 = .pb b8 0 ∧ v.σ 9 = .pb b9 0 ∧ v.σ 10 = .int .i64 i) (fun v => p.set.length - (ival (v.σ 10)).toNat) ⟨0, .full, by omega, TW.full 7, e3, e4, e8, e9, rfl, rfl, rfl, rfl, rfl, rfl, rfl⟩ ?_
  clear e3 e4 e8 e9
  rintro σ β ω ⟨i, t, hi, hw, e3, e4, e8, e9, q2, q3, q4, q7, q8, q9, q10⟩
  dsimp only at hw e3 e4 e8 e9 q2 q3 q4 q7 q8 q9 q10
  have hto := hw.ok
  have htg := hw.gone
  try simp only [go_sem, reduceIte, Nat.reduceEqDiff, Nat.reduceAdd, Nat.reduceSub, Nat.reduceMul, Nat.reduceLT, Nat.reduceLeDiff, Nat.reducePow, Int.reduceToNat, Int.reduceLT, Int.reduceLE, Int.reduceEq, Int.reduceNe, Int.reduceAdd, Int.reduceSub, Int.reduceMul, Int.reduceNeg, q2, q3, q4, q7, q8, q9, q10, e3, es]
  refine cd_dec (fun g => ?_) (fun g => ?_)
  · have wi := wrap_i64 (x := (i : Int) + 1) (by omega) (by omega)
    obtain ⟨x, hx, ex⟩ := Vl_at (l := p.set) (j := i) (by omega)
    have ci : ((0 : Int) ≤ i) = True := eq_true (by omega)
    have gi := eq_true g
    have hqx : qs[i]? = some (inP p.id [x]) := by rw [← hqs, List.getElem?_map, hx]; rfl
    try simp only [go_sem, reduceIte, Nat.reduceEqDiff, Nat.reduceAdd, Nat.reduceSub, Nat.reduceMul, Nat.reduceLT, Nat.reduceLeDiff, Nat.reducePow, Int.reduceToNat, Int.reduceLT, Int.reduceLE, Int.reduceEq, Int.reduceNe, Int.reduceAdd, Int.reduceSub, Int.reduceMul, Int.reduceNeg, q2, q3, q4, q7, q8, q9, q10, e3, e9, es, ci, gi, wi, hto, htg]
    refine ⟨⟨by omega, by omega, fun z hz => ?_⟩, fun z hz => ?_, by simp only [List.length_map, List.length_take]; omega, fun t' _ => ⟨⟨i + 1, .live t' 7, by omega, TW.live 7 t', ?_⟩, by omega⟩⟩
    · obtain ⟨y, _, rfl⟩ := List.mem_map.1 hz
      rfl
    · obtain ⟨y, _, rfl⟩ := List.mem_map.1 hz
      cases y; rfl
    simp only [N, if_false, e4, e8, true_and]
    refine ⟨?_, by simp⟩
    rw [List.take_add_one, hqx]
    have hcut : (p.set.drop i).take (i + 1 - i) = [x] := by
      rw [drop_at hx, show i + 1 - i = 1 by omega]; rfl
    refine congrArg some ?_
    simp only [List.map_append, ← List.map_take, ← List.map_drop, show ((i : Int) + 1).toNat = i + 1 from rfl, hcut, Option.toList_some, List.map_cons, List.map_nil, inP_d]
  · rw [List.take_of_length_le (by omega)] at e9
    by_cases h0 : 0 < p.set.length
    · have c0 : ((0 : Int) < (p.set.length : Nat)) = True := eq_true (by omega)
      have heq := fun t1 t2 t3 t4 => eq_in (G := G) r p.id p.set qs t1 t2 t3 t4 (z1 (List.ne_nil_of_length_pos h0))
      try simp only [go_sem, reduceIte, Nat.reduceEqDiff, Nat.reduceAdd, Nat.reduceSub, Nat.reduceMul, Nat.reduceLT, Nat.reduceLeDiff, Nat.reducePow, Int.reduceToNat, Int.reduceLT, Int.reduceLE, Int.reduceEq, Int.reduceNe, Int.reduceAdd, Int.reduceSub, Int.reduceMul, Int.reduceNeg, q2, q3, q4, q7, q8, q9, q10, e3, e4, e8, e9, es, c0, decide_true]
      refine cK_vn (heq _ _ _ _) ?_
      try simp only [go_sem, reduceIte, Nat.reduceEqDiff, Nat.reduceAdd, Nat.reduceSub, Nat.reduceMul, Nat.reduceLT, Nat.reduceLeDiff, Nat.reducePow, Int.reduceToNat, Int.reduceLT, Int.reduceLE, Int.reduceEq, Int.reduceNe, Int.reduceAdd, Int.reduceSub, Int.reduceMul, Int.reduceNeg, q2, q3, q4, q7, q8, q9, q10, e3, e4, e8, e9, es, c0, decide_true]
      (first | refine cK_vn (between_ok _ _ _) ?_ | refine cE_vn (between_ok _ _ _) ?_)
      try simp only [go_sem, reduceIte, Nat.reduceEqDiff, Nat.reduceAdd, Nat.reduceSub, Nat.reduceMul, Nat.reduceLT, Nat.reduceLeDiff, Nat.reducePow, Int.reduceToNat, Int.reduceLT, Int.reduceLE, Int.reduceEq, Int.reduceNe, Int.reduceAdd, Int.reduceSub, Int.reduceMul, Int.reduceNeg, q2, q3, q4, q7, q8, q9, q10, e3, e4, e8, e9, es, c0, decide_true]
      (first | refine cK_vn (between_ok _ _ _) ?_ | refine cE_vn (between_ok _ _ _) ?_)
      try simp only [go_sem, reduceIte, Nat.reduceEqDiff, Nat.reduceAdd, Nat.reduceSub, Nat.reduceMul, Nat.reduceLT, Nat.reduceLeDiff, Nat.reducePow, Int.reduceToNat, Int.reduceLT, Int.reduceLE, Int.reduceEq, Int.reduceNe, Int.reduceAdd, Int.reduceSub, Int.reduceMul, Int.reduceNeg, q2, q3, q4, q7, q8, q9, q10, e3, e4, e8, e9, es, c0, decide_true]
      have N := trivial
      refine new_any fun b11 hb11 => ?_
      have N := And.intro N (box_ne hb11 e3)
      have N := And.intro N (box_ne hb11 e4)
      generalize hβ_ : Heap.set _ b11 _ = β_
      have e11 := hit_set hβ_
      have e3 := keep_new hβ_ hb11 e3
      have e4 := keep_new hβ_ hb11 e4
      clear hβ_ hb11
      refine new_any fun b12 hb12 => ?_
      have N := And.intro N (box_ne hb12 e3)
      have N := And.intro N (box_ne hb12 e4)
      have N := And.intro N (box_ne hb12 e11)
      generalize hβ_ : Heap.set _ b12 _ = β_
      have e12 := hit_set hβ_
      have e3 := keep_new hβ_ hb12 e3
      have e4 := keep_new hβ_ hb12 e4
      have e11 := keep_new hβ_ hb12 e11
      clear hβ_ hb12
      try simp only [go_sem, reduceIte, Nat.reduceEqDiff, Nat.reduceAdd, Nat.reduceSub, Nat.reduceMul, Nat.reduceLT, Nat.reduceLeDiff, Nat.reducePow, Int.reduceToNat, Int.reduceLT, Int.reduceLE, Int.reduceEq, Int.reduceNe, Int.reduceAdd, Int.reduceSub, Int.reduceMul, Int.reduceNeg, N, e3, e4, e11, e12]
      refine ⟨by simp [rdAdd, N], by simp [rdAdd, N], ?_⟩
      generalize hβ_ : Heap.set _ b11 _ = β_
      have e3 := keep_ne hβ_ (by simp [N]) e3
      have e4 := keep_ne hβ_ (by simp [N]) e4
      have e12 := keep_ne hβ_ (by simp [N]) e12
      have e11 := hit_set hβ_
      clear hβ_
      generalize hβ_ : Heap.set _ b12 _ = β_
      have e3 := keep_ne hβ_ (by simp [N]) e3
      have e4 := keep_ne hβ_ (by simp [N]) e4
      have e11 := keep_ne hβ_ (by simp [N]) e11
      have e12 := hit_set hβ_
      clear hβ_
      refine new_any fun b13 hb13 => ?_
      have N := And.intro N (box_ne hb13 e3)
      have N := And.intro N (box_ne hb13 e4)
      have N := And.intro N (box_ne hb13 e11)
      have N := And.intro N (box_ne hb13 e12)
      generalize hβ_ : Heap.set _ b13 _ = β_
      have e13 := hit_set hβ_
      have e3 := keep_new hβ_ hb13 e3
      have e4 := keep_new hβ_ hb13 e4
      have e11 := keep_new hβ_ hb13 e11
      have e12 := keep_new hβ_ hb13 e12
      clear hβ_ hb13
      try simp only [go_sem, reduceIte, Nat.reduceEqDiff, Nat.reduceAdd, Nat.reduceSub, Nat.reduceMul, Nat.reduceLT, Nat.reduceLeDiff, Nat.reducePow, Int.reduceToNat, Int.reduceLT, Int.reduceLE, Int.reduceEq, Int.reduceNe, Int.reduceAdd, Int.reduceSub, Int.reduceMul, Int.reduceNeg, N, e3, e4, e11, e12, e13, hwn, hmn]
      refine ⟨⟨hm0, hm1⟩, ?_⟩
      refine new_any fun b14 hb14 => ?_
      have N := And.intro N (box_ne hb14 e3)
      have N := And.intro N (box_ne hb14 e4)
      have N := And.intro N (box_ne hb14 e11)
      have N := And.intro N (box_ne hb14 e12)
      have N := And.intro N (box_ne hb14 e13)
      generalize hβ_ : Heap.set _ b14 _ = β_
      have e14 := hit_set hβ_
      have e3 := keep_new hβ_ hb14 e3
      have e4 := keep_new hβ_ hb14 e4
      have e11 := keep_new hβ_ hb14 e11
      have e12 := keep_new hβ_ hb14 e12
      have e13 := keep_new hβ_ hb14 e13
      clear hβ_ hb14
      try simp only [go_sem, reduceIte, Nat.reduceEqDiff, Nat.reduceAdd, Nat.reduceSub, Nat.reduceMul, Nat.reduceLT, Nat.reduceLeDiff, Nat.reducePow, Int.reduceToNat, Int.reduceLT, Int.reduceLE, Int.reduceEq, Int.reduceNe, Int.reduceAdd, Int.reduceSub, Int.reduceMul, Int.reduceNeg, N, e3, e4, e11, e12, e13, e14]
      refine cE_vn (ev_pft r p.id p.text _ _) ?_
      try simp only [go_sem, reduceIte, Nat.reduceEqDiff, Nat.reduceAdd, Nat.reduceSub, Nat.reduceMul, Nat.reduceLT, Nat.reduceLeDiff, Nat.reducePow, Int.reduceToNat, Int.reduceLT, Int.reduceLE, Int.reduceEq, Int.reduceNe, Int.reduceAdd, Int.reduceSub, Int.reduceMul, Int.reduceNeg, N, e3, e4, e11, e12, e13, e14]
      refine cE_vn (ev_pft r p.id _ _ _) ?_
      try simp only [go_sem, reduceIte, Nat.reduceEqDiff, Nat.reduceAdd, Nat.reduceSub, Nat.reduceMul, Nat.reduceLT, Nat.reduceLeDiff, Nat.reducePow, Int.reduceToNat, Int.reduceLT, Int.reduceLE, Int.reduceEq, Int.reduceNe, Int.reduceAdd, Int.reduceSub, Int.reduceMul, Int.reduceNeg, N, e3, e4, e11, e12, e13, e14]
      (first | refine cK_vn (between_ok _ _ _) ?_ | refine cE_vn (between_ok _ _ _) ?_)
      try simp only [go_sem, reduceIte, Nat.reduceEqDiff, Nat.reduceAdd, Nat.reduceSub, Nat.reduceMul, Nat.reduceLT, Nat.reduceLeDiff, Nat.reducePow, Int.reduceToNat, Int.reduceLT, Int.reduceLE, Int.reduceEq, Int.reduceNe, Int.reduceAdd, Int.reduceSub, Int.reduceMul, Int.reduceNeg, N, e3, e4, e11, e12, e13, e14]
      (first | refine cK_vn (op2_ok _ _ _ _) ?_ | refine cE_vn (op2_ok _ _ _ _) ?_)
      try simp only [go_sem, reduceIte, Nat.reduceEqDiff, Nat.reduceAdd, Nat.reduceSub, Nat.reduceMul, Nat.reduceLT, Nat.reduceLeDiff, Nat.reducePow, Int.reduceToNat, Int.reduceLT, Int.reduceLE, Int.reduceEq, Int.reduceNe, Int.reduceAdd, Int.reduceSub, Int.reduceMul, Int.reduceNeg, N, e3, e4, e11, e12, e13, e14]
      (first | refine cK_vn (equal_ok _ _ _) ?_ | refine cE_vn (equal_ok _ _ _) ?_)
      try simp only [go_sem, reduceIte, Nat.reduceEqDiff, Nat.reduceAdd, Nat.reduceSub, Nat.reduceMul, Nat.reduceLT, Nat.reduceLeDiff, Nat.reducePow, Int.reduceToNat, Int.reduceLT, Int.reduceLE, Int.reduceEq, Int.reduceNe, Int.reduceAdd, Int.reduceSub, Int.reduceMul, Int.reduceNeg, N, e3, e4, e11, e12, e13, e14, z2']
      exact finK_drop ⟨congrArg (fun b => Out.ret (D.bool b)) (atoms_fin z3 z4), rfl, rfl⟩
    · have c0 : ((0 : Int) < (p.set.length : Nat)) = False := eq_false (by omega)
      try simp only [go_sem, reduceIte, Nat.reduceEqDiff, Nat.reduceAdd, Nat.reduceSub, Nat.reduceMul, Nat.reduceLT, Nat.reduceLeDiff, Nat.reducePow, Int.reduceToNat, Int.reduceLT, Int.reduceLE, Int.reduceEq, Int.reduceNe, Int.reduceAdd, Int.reduceSub, Int.reduceMul, Int.reduceNeg, q2, q3, q4, q7, q8, q9, q10, e3, e4, e8, e9, es, c0, decide_false]
      (first | refine cK_vn (between_ok _ _ _) ?_ | refine cE_vn (between_ok _ _ _) ?_)
      try simp only [go_sem, reduceIte, Nat.reduceEqDiff, Nat.reduceAdd, Nat.reduceSub, Nat.reduceMul, Nat.reduceLT, Nat.reduceLeDiff, Nat.reducePow, Int.reduceToNat, Int.reduceLT, Int.reduceLE, Int.reduceEq, Int.reduceNe, Int.reduceAdd, Int.reduceSub, Int.reduceMul, Int.reduceNeg, q2, q3, q4, q7, q8, q9, q10, e3, e4, e8, e9, es, c0, decide_true]
      (first | refine cK_vn (between_ok _ _ _) ?_ | refine cE_vn (between_ok _ _ _) ?_)
      try simp only [go_sem, reduceIte, Nat.reduceEqDiff, Nat.reduceAdd, Nat.reduceSub, Nat.reduceMul, Nat.reduceLT, Nat.reduceLeDiff, Nat.reducePow, Int.reduceToNat, Int.reduceLT, Int.reduceLE, Int.reduceEq, Int.reduceNe, Int.reduceAdd, Int.reduceSub, Int.reduceMul, Int.reduceNeg, q2, q3, q4, q7, q8, q9, q10, e3, e4, e8, e9, es, c0, decide_true]
      have N := trivial
      refine new_any fun b11 hb11 => ?_
      have N := And.intro N (box_ne hb11 e3)
      have N := And.intro N (box_ne hb11 e4)
      generalize hβ_ : Heap.set _ b11 _ = β_
      have e11 := hit_set hβ_
      have e3 := keep_new hβ_ hb11 e3
      have e4 := keep_new hβ_ hb11 e4
      clear hβ_ hb11
      refine new_any fun b12 hb12 => ?_
      have N := And.intro N (box_ne hb12 e3)
      have N := And.intro N (box_ne hb12 e4)
      have N := And.intro N (box_ne hb12 e11)
      generalize hβ_ : Heap.set _ b12 _ = β_
      have e12 := hit_set hβ_
      have e3 := keep_new hβ_ hb12 e3
      have e4 := keep_new hβ_ hb12 e4
      have e11 := keep_new hβ_ hb12 e11
      clear hβ_ hb12
      try simp only [go_sem, reduceIte, Nat.reduceEqDiff, Nat.reduceAdd, Nat.reduceSub, Nat.reduceMul, Nat.reduceLT, Nat.reduceLeDiff, Nat.reducePow, Int.reduceToNat, Int.reduceLT, Int.reduceLE, Int.reduceEq, Int.reduceNe, Int.reduceAdd, Int.reduceSub, Int.reduceMul, Int.reduceNeg, N, e3, e4, e11, e12]
      refine ⟨by simp [rdAdd, N], by simp [rdAdd, N], ?_⟩
      generalize hβ_ : Heap.set _ b11 _ = β_
      have e3 := keep_ne hβ_ (by simp [N]) e3
      have e4 := keep_ne hβ_ (by simp [N]) e4
      have e12 := keep_ne hβ_ (by simp [N]) e12
      have e11 := hit_set hβ_
      clear hβ_
      generalize hβ_ : Heap.set _ b12 _ = β_
      have e3 := keep_ne hβ_ (by simp [N]) e3
      have e4 := keep_ne hβ_ (by simp [N]) e4
      have e11 := keep_ne hβ_ (by simp [N]) e11
      have e12 := hit_set hβ_
      clear hβ_
      refine new_any fun b13 hb13 => ?_
      have N := And.intro N (box_ne hb13 e3)
      have N := And.intro N (box_ne hb13 e4)
      have N := And.intro N (box_ne hb13 e11)
      have N := And.intro N (box_ne hb13 e12)
      generalize hβ_ : Heap.set _ b13 _ = β_
      have e13 := hit_set hβ_
      have e3 := keep_new hβ_ hb13 e3
      have e4 := keep_new hβ_ hb13 e4
      have e11 := keep_new hβ_ hb13 e11
      have e12 := keep_new hβ_ hb13 e12
      clear hβ_ hb13
      try simp only [go_sem, reduceIte, Nat.reduceEqDiff, Nat.reduceAdd, Nat.reduceSub, Nat.reduceMul, Nat.reduceLT, Nat.reduceLeDiff, Nat.reducePow, Int.reduceToNat, Int.reduceLT, Int.reduceLE, Int.reduceEq, Int.reduceNe, Int.reduceAdd, Int.reduceSub, Int.reduceMul, Int.reduceNeg, N, e3, e4, e11, e12, e13, hwn, hmn]
      refine ⟨⟨hm0, hm1⟩, ?_⟩
      refine new_any fun b14 hb14 => ?_
      have N := And.intro N (box_ne hb14 e3)
      have N := And.intro N (box_ne hb14 e4)
      have N := And.intro N (box_ne hb14 e11)
      have N := And.intro N (box_ne hb14 e12)
      have N := And.intro N (box_ne hb14 e13)
      generalize hβ_ : Heap.set _ b14 _ = β_
      have e14 := hit_set hβ_
      have e3 := keep_new hβ_ hb14 e3
      have e4 := keep_new hβ_ hb14 e4
      have e11 := keep_new hβ_ hb14 e11
      have e12 := keep_new hβ_ hb14 e12
      have e13 := keep_new hβ_ hb14 e13
      clear hβ_ hb14
      try simp only [go_sem, reduceIte, Nat.reduceEqDiff, Nat.reduceAdd, Nat.reduceSub, Nat.reduceMul, Nat.reduceLT, Nat.reduceLeDiff, Nat.reducePow, Int.reduceToNat, Int.reduceLT, Int.reduceLE, Int.reduceEq, Int.reduceNe, Int.reduceAdd, Int.reduceSub, Int.reduceMul, Int.reduceNeg, N, e3, e4, e11, e12, e13, e14]
      refine cE_vn (ev_pft r p.id p.text _ _) ?_
      try simp only [go_sem, reduceIte, Nat.reduceEqDiff, Nat.reduceAdd, Nat.reduceSub, Nat.reduceMul, Nat.reduceLT, Nat.reduceLeDiff, Nat.reducePow, Int.reduceToNat, Int.reduceLT, Int.reduceLE, Int.reduceEq, Int.reduceNe, Int.reduceAdd, Int.reduceSub, Int.reduceMul, Int.reduceNeg, N, e3, e4, e11, e12, e13, e14]
      refine cE_vn (ev_pft r p.id _ _ _) ?_
      try simp only [go_sem, reduceIte, Nat.reduceEqDiff, Nat.reduceAdd, Nat.reduceSub, Nat.reduceMul, Nat.reduceLT, Nat.reduceLeDiff, Nat.reducePow, Int.reduceToNat, Int.reduceLT, Int.reduceLE, Int.reduceEq, Int.reduceNe, Int.reduceAdd, Int.reduceSub, Int.reduceMul, Int.reduceNeg, N, e3, e4, e11, e12, e13, e14]
      (first | refine cK_vn (between_ok _ _ _) ?_ | refine cE_vn (between_ok _ _ _) ?_)
      try simp only [go_sem, reduceIte, Nat.reduceEqDiff, Nat.reduceAdd, Nat.reduceSub, Nat.reduceMul, Nat.reduceLT, Nat.reduceLeDiff, Nat.reducePow, Int.reduceToNat, Int.reduceLT, Int.reduceLE, Int.reduceEq, Int.reduceNe, Int.reduceAdd, Int.reduceSub, Int.reduceMul, Int.reduceNeg, N, e3, e4, e11, e12, e13, e14]
      (first | refine cK_vn (op2_ok _ _ _ _) ?_ | refine cE_vn (op2_ok _ _ _ _) ?_)
      try simp only [go_sem, reduceIte, Nat.reduceEqDiff, Nat.reduceAdd, Nat.reduceSub, Nat.reduceMul, Nat.reduceLT, Nat.reduceLeDiff, Nat.reducePow, Int.reduceToNat, Int.reduceLT, Int.reduceLE, Int.reduceEq, Int.reduceNe, Int.reduceAdd, Int.reduceSub, Int.reduceMul, Int.reduceNeg, N, e3, e4, e11, e12, e13, e14]
      (first | refine cK_vn (equal_ok _ _ _) ?_ | refine cE_vn (equal_ok _ _ _) ?_)
      try simp only [go_sem, reduceIte, Nat.reduceEqDiff, Nat.reduceAdd, Nat.reduceSub, Nat.reduceMul, Nat.reduceLT, Nat.reduceLeDiff, Nat.reducePow, Int.reduceToNat, Int.reduceLT, Int.reduceLE, Int.reduceEq, Int.reduceNe, Int.reduceAdd, Int.reduceSub, Int.reduceMul, Int.reduceNeg, N, e3, e4, e11, e12, e13, e14, z2']
      exact finK_drop ⟨congrArg (fun b => Out.ret (D.bool b)) (atoms_fin z3 z4), rfl, rfl⟩
end Go.Proofs.YtbfkhepfgibonaaS
