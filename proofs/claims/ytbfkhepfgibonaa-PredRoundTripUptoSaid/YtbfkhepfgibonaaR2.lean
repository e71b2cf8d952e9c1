/-
  Predicates: what fenlandref08.Form makes is well-formed.
-/
import Derived.Test.YtbfkhepfgibonaaR1
import Derived.Test.YtbfkhepfgibonaaQ6
import Derived.Test.YtbfkhepfgibonaaV31
set_option linter.unusedVariables false
set_option linter.unusedSimpArgs false
namespace Go.Proofs.YtbfkhepfgibonaaS
open Go Go.Proofs.YtbfkhepfgibonaaV

variable {G : Heap}
attribute [local irreducible] VN VC VX VQ VY VW VTA VT0

def isIx (n : Nat) (d : D) : Prop := ∃ r : Nat, d = .int .i64 r ∧ r < n
theorem index_ok (i : Int) (n : Nat) (h0 : 0 < n) (hn : n ≤ 1099511627776) : VX P G 38 [.int .i64 i, .int .i64 n] (isIx n) := by
  unfold VX
  refine VC.ofs (fun | 99999999 => [(0, [0, 1, 4])] | _ => []) [4] mixed Try.func38 rfl rfl rfl rfl (by decide +kernel) (by simp) ?_
  simp only [go_sem, reduceIte, Nat.reduceEqDiff, Nat.reduceAdd, Nat.reduceSub, Nat.reduceMul, Nat.reduceLT, Nat.reduceLeDiff, Nat.reducePow, Int.reduceToNat, Int.reduceLT, Int.reduceLE, Int.reduceEq, Int.reduceNe, Int.reduceAdd, Int.reduceSub, Int.reduceMul, Int.reduceNeg]
  have e1 : (n : Int) % 18446744073709551616 = n := Int.emod_eq_of_lt (by omega) (by omega)
  have e2 : 0 ≤ i % 18446744073709551616 := Int.emod_nonneg _ (by omega)
  rw [e1]
  generalize i % 18446744073709551616 = x at e2
  have e3 := Int.emod_nonneg x (show (n : Int) ≠ 0 by omega)
  have e4 := Int.emod_lt_of_pos x (show (0 : Int) < n by omega)
  rw [Int.tmod_eq_emod_of_nonneg e2]
  refine ⟨by omega, finK_exact ⟨_, ⟨(x % n).toNat, ?_, by omega⟩, rfl, rfl, rfl⟩⟩
  rw [wrap_i64 (by omega) (by omega), Int.toNat_of_nonneg e3]
/-- Well-formed, and at most so deep. -/
structure Gd (n : Nat) (q : Pr) : Prop where
  dep : depN n q ≤ n
  form : ∀ s ∈ subs q, FormP s
  pi : ∀ s ∈ subs q, PI s
theorem Gd.wellF {q : Pr} (h : Gd 8 q) : wellF q = true := by
  unfold YtbfkhepfgibonaaS.wellF
  rw [decide_eq_true h.dep, Bool.true_and, List.all_eq_true]
  exact fun s hs => decide_eq_true (h.form s hs)
theorem subs_leaf {q : Pr} (h : q.kids = []) : subs q = [q] := by rw [subs_eq, h, subsL_nil]
theorem Gd.leaf {n : Nat} {q : Pr} (h : q.kids = []) (hf : FormP q) (hp : PI q) : Gd (n + 1) q := by
  refine ⟨?_, fun s hs => ?_, fun s hs => ?_⟩
  · rw [depN, h]; simp
  all_goals
    rw [subs_leaf h, List.mem_singleton] at hs
    subst hs; assumption
theorem foldl_max_leR {l : List Nat} {a n : Nat} (ha : a ≤ n) (h : ∀ x ∈ l, x ≤ n) : l.foldl max a ≤ n := by
  induction l generalizing a with
  | nil => exact ha
  | cons x l ih => exact ih (by have := h x (by simp); omega) fun y hy => h y (by simp [hy])
theorem Gd.node {n : Nat} {q : Pr} (hk : ∀ k ∈ q.kids, Gd n k) (hf : FormP q) (hp : PI q) : Gd (n + 1) q := by
  refine ⟨?_, fun s hs => ?_, fun s hs => ?_⟩
  · rw [depN]
    have := foldl_max_leR (l := q.kids.map (depN n)) (Nat.zero_le n) fun x hx => by
      obtain ⟨k, hk', rfl⟩ := List.mem_map.1 hx; exact (hk k hk').dep
    omega
  all_goals
    rw [subs_eq] at hs
    rcases List.mem_cons.1 hs with rfl | hs
    · assumption
    · rw [subsL_flat] at hs
      obtain ⟨k, hk', hs'⟩ := List.mem_flatMap.1 hs
      first | exact (hk k hk').form s hs' | exact (hk k hk').pi s hs'
theorem Gd.mono {n : Nat} {q : Pr} (h : Gd n q) : Gd n q := h
theorem I64'_0 : I64' 0 := ⟨by omega, by omega⟩
theorem PI_op {o : Int} {l : List Pr} : PI (.mk o 0 0 0 [] ByteArray.empty l) := ⟨I64'_0, I64'_0, I64'_0, fun v hv => by cases hv⟩
theorem nul_form : FormP (.mk 0 0 0 0 [] ByteArray.empty []) := by decide +kernel
theorem vflat_get2 {f : List Vl} {k : Nat} {v : Vl} (h : f[k]? = some v) : (vflat f).getD (k * 3 + 2) .any = .str v.s := by
  have e := vflat_at h
  have e2 : (((vflat f).drop (k * 3)).take 3)[2]? = some (.str v.s) := by rw [e]; rfl
  rw [List.getElem?_take, if_pos (by omega), List.getElem?_drop] at e2
  rw [List.getD, e2]; rfl
theorem pr_cells (l : List Pr) : ∀ x ∈ l.map Pr.d, x.cells.length = 7 := fun x hx => by
  obtain ⟨y, _, rfl⟩ := List.mem_map.1 hx; rw [y.d_eq]; rfl
theorem bapVn {P : Program} {t u : TypeId} {by_ : Nat} {β : Heap} {y : D} {ok : Prop} {k : D → Heap → Prop} {R : List Vl} (hel : elt P t = some (3, by_)) (hz : zel P t = some ([.bool false, .int .i64 0, .str ByteArray.empty], by_)) (h0 : 0 < by_) (hby : by_ ≤ 1024)
    (hok : ok) (hy : srcOf P β 3 u y = (R.map Vl.d, True)) (hR : 0 < R.length) (hn : R.length ≤ 1048576) (hk : ∀ b f, β b = none → f.take R.length = R → R.length ≤ f.length → k (.so b 0 R.length f.length) (β.set b (vflat f))) : bapK P t u (.sl .full []) y ok true β k := by
  have hmul : (0 + R.length) * by_ ≤ 140737488355328 := Nat.le_trans (Nat.mul_le_mul (by omega) hby) (by omega : 1048576 * 1024 ≤ 140737488355328)
  have hfl : flat (R.map Vl.d) = vflat R := rfl
  rw [bapK_at hel hz]
  refine ⟨hok, h0, by simp, by rw [hy]; trivial, ?_⟩
  rw [hy]
  refine ⟨rfl, by simp, by simpa using hmul, fun h => absurd h (by rw [List.length_map]; omega), fun _ cap' hc b' hb' => ?_⟩
  simp only [List.length_nil, List.length_map, Nat.zero_add] at hc ⊢
  have := hk b' (R ++ List.replicate (cap' - R.length) ⟨false, 0, ByteArray.empty⟩) hb' (by simp) (by simp)
  rw [vflat_append, List.length_append, List.length_replicate, show R.length + (cap' - R.length) = cap' by omega, ← zeros_vflat, ← hfl] at this
  exact this
theorem form1 (id lo hi : Int) : FormP (.mk 1 id lo hi [] ByteArray.empty []) := by constructor <;> simp [usedP, isAt, Pr.op, Pr.id, Pr.lo, Pr.hi, Pr.set, Pr.text, Pr.kids]
theorem form2 (id : Int) (set : List Vl) (h : set.length ≤ 16) (h2 : ∀ v ∈ set, v.s.size ≤ 200) : FormP (.mk 2 id 0 0 set ByteArray.empty []) := by
  constructor <;> simp [usedP, isAt, Pr.op, Pr.id, Pr.lo, Pr.hi, Pr.set, Pr.text, Pr.kids]
  · exact h
  · exact h2
theorem form3 (id : Int) (t : ByteArray) (h : t.size ≤ 200) : FormP (.mk 3 id 0 0 [] t []) := by
  constructor <;> simp [usedP, isAt, Pr.op, Pr.id, Pr.lo, Pr.hi, Pr.set, Pr.text, Pr.kids]
  exact h
theorem form4 (id : Int) : FormP (.mk 4 id 0 0 [] ByteArray.empty []) := by constructor <;> simp [usedP, isAt, Pr.op, Pr.id, Pr.lo, Pr.hi, Pr.set, Pr.text, Pr.kids]
theorem formK (o : Int) (l : List Pr) (ho : 5 ≤ o ∧ o ≤ 7) (h : l.length ≤ 16) (h7 : o = 7 → l.length = 1) : FormP (.mk o 0 0 0 [] ByteArray.empty l) := by
  obtain rfl | rfl | rfl : o = 5 ∨ o = 6 ∨ o = 7 := by omega
  all_goals
    constructor <;> simp [usedP, isAt, Pr.op, Pr.id, Pr.lo, Pr.hi, Pr.set, Pr.text, Pr.kids]
    first | exact h | exact h7 rfl | skip
  all_goals exact h7 rfl
def isGd (n m : Nat) (d : D) : Prop := ∃ q : Pr, d = .agg q.cells ∧ Gd n q ∧ (subs q).length ≤ m
theorem subs_pos (q : Pr) : 1 ≤ (subs q).length := by rw [subs_eq]; simp
theorem leaf_few {q p : Pr} (h : q.kids = []) : (subs q).length ≤ (subs p).length := by rw [subs_leaf h]; exact subs_pos p
theorem isGd_any (n : Nat) (p : Pr) : ∃ d, isGd (n + 1) (subs p).length d := ⟨_, .mk 0 0 0 0 [] ByteArray.empty [], rfl, .leaf rfl nul_form PI_op, leaf_few rfl⟩
theorem node_few {q p : Pr} {j : Nat} (h : (subsL q.kids).length ≤ (subsL (p.kids.take j)).length) : (subs q).length ≤ (subs p).length := by
  have h2 : (subsL (p.kids.take j)).length ≤ (subsL p.kids).length := by
    conv => rhs; rw [← List.take_append_drop j p.kids]
    rw [subsL_flat, subsL_flat, List.flatMap_append, List.length_append]; omega
  rw [subs_eq, subs_eq, List.length_cons, List.length_cons]; omega
theorem few_step {l : List Pr} {qs : List Pr} {j : Nat} {k q : Pr} (h : (subsL qs).length ≤ (subsL (l.take j)).length) (hx : l[j]? = some k) (hq : (subs q).length ≤ (subs k).length) : (subsL (qs ++ [q])).length ≤ (subsL (l.take (j + 1))).length := by
  rw [List.take_add_one, hx, subsL_flat, subsL_flat, List.flatMap_append, List.flatMap_append]
  rw [subsL_flat, subsL_flat] at h
  simp only [Option.toList_some, List.flatMap_cons, List.flatMap_nil, List.append_nil, List.length_append]; omega
set_option maxRecDepth 100000 in
set_option maxHeartbeats 8000000 in
theorem Form_step (n : Nat) (hn : n ≤ 7) (p : Pr) (hp : PI p) (ih : 0 < n → ∀ k ∈ p.kids, VX P G 16 [.agg k.cells, .int .i64 (n : Int)] (isGd n (subs k).length)) :
    VX P G 16 [.agg p.cells, .int .i64 ((n : Int) + 1)] (isGd (n + 1) (subs p).length) := by
  have hx : VX P G 38 [.int .i64 p.op, .int .i64 8] (isIx 8) := index_ok p.op 8 (by omega) (by omega)
  unfold VX
  refine VC.small2 fun hsm => ?_
  have z1 := hsm (.agg p.cells) (List.mem_cons_self ..) (.sl .none (p.set.map Vl.d)) (by simp [D.cells, Pr.cells])
  have z2 := hsm (.agg p.cells) (List.mem_cons_self ..) (.sl .none (p.kids.map Pr.d)) (by simp [D.cells, Pr.cells])
  have z3 := hsm (.agg p.cells) (List.mem_cons_self ..) (.str p.text) (by simp [D.cells, Pr.cells])
  simp only [Small, mostLen, List.length_map] at z1 z2 z3
  clear hsm
  have e5 : (p.set.map Vl.d).length = p.set.length := by simp
  have e7 : (p.kids.map Pr.d).length = p.kids.length := by simp
  refine VC.turn (Φ1 := fun o β ω => ∃ d, o = .ret d ∧ ((isGd (n + 1) (subs p).length d ∧ β = Heap.nil ∧ ω = []) ∨ ∃ (id : Int) (b m : Nat) (f : List Vl), d = .agg [.int .i64 2, .int .i64 id, .int .i64 0, .int .i64 0, .so b 0 m f.length, .str ByteArray.empty, .sl .full []] ∧ β b = some (vflat f) ∧ m ≤ f.length ∧ m ≤ 16 ∧ I64' id ∧ ∀ v ∈ f.take m, I64' v.n ∧ v.s.size ≤ 200)) ?_ ?_ ?_
  · refine VC.ofcT (fun | 6 => [(0, []), (1, []), (2, []), (3, [5]), (4, []), (5, []), (6, []), (7, [])] | 8 => [(0, []), (1, []), (2, []), (3, []), (4, []), (5, []), (6, []), (7, []), (8, [777777]), (9, []), (10, [])] | 12 => [(0, []), (1, []), (2, []), (3, []), (4, []), (5, []), (6, []), (7, []), (8, []), (9, []), (10, []), (11, []), (12, []), (13, []), (14, []), (15, []), (16, []), (17, []), (18, []), (19, []), (20, [])] | 22 => [(0, []), (1, [9]), (2, []), (3, []), (4, []), (5, []), (6, []), (7, []), (8, []), (9, []), (10, []), (11, []), (12, []), (13, [])] | 99999999 => [(0, [0, 1, 2, 4, 5, 6, 7, 19, 24, 25, 33, 49, 72, 82, 98, 107, 129])] | _ => []) [.cell 4 25] mixed Try.func16 rfl rfl rfl rfl (by decide +kernel) (by simp) ?_
    simp only [go_sem, reduceIte, Nat.reduceEqDiff, Nat.reduceAdd, Nat.reduceSub, Nat.reduceMul, Nat.reduceLT, Nat.reduceLeDiff, Nat.reducePow, Int.reduceToNat, Int.reduceLT, Int.reduceLE, Int.reduceEq, Int.reduceNe, Int.reduceAdd, Int.reduceSub, Int.reduceMul, Int.reduceNeg]
    intro b2
    refine new_1 fun b4 h1 h2 => ?_
    try simp only [go_sem, reduceIte, Nat.reduceEqDiff, Nat.reduceAdd, Nat.reduceSub, Nat.reduceMul, Nat.reduceLT, Nat.reduceLeDiff, Nat.reducePow, Int.reduceToNat, Int.reduceLT, Int.reduceLE, Int.reduceEq, Int.reduceNe, Int.reduceAdd, Int.reduceSub, Int.reduceMul, Int.reduceNeg, h1, h2]
    refine cK_vx hx ?_
    rintro _ ⟨r, rfl, hr⟩
    try simp only [go_sem, reduceIte, Nat.reduceEqDiff, Nat.reduceAdd, Nat.reduceSub, Nat.reduceMul, Nat.reduceLT, Nat.reduceLeDiff, Nat.reducePow, Int.reduceToNat, Int.reduceLT, Int.reduceLE, Int.reduceEq, Int.reduceNe, Int.reduceAdd, Int.reduceSub, Int.reduceMul, Int.reduceNeg, h1, h2]
    refine new_2 fun b5 h3 h4 h5 => ?_
    have hr' : r = 0 ∨ r = 1 ∨ r = 2 ∨ r = 3 ∨ r = 4 ∨ r = 5 ∨ r = 6 ∨ r = 7 := by omega
    rcases hr' with rfl | rfl | rfl | rfl | rfl | rfl | rfl | rfl
    all_goals try simp only [go_sem, reduceIte, Nat.reduceEqDiff, Nat.reduceAdd, Nat.reduceSub, Nat.reduceMul, Nat.reduceLT, Nat.reduceLeDiff, Nat.reducePow, Int.reduceToNat, Int.reduceLT, Int.reduceLE, Int.reduceEq, Int.reduceNe, Int.reduceAdd, Int.reduceSub, Int.reduceMul, Int.reduceNeg, h1, h2, h3, h4, h5, e5, e7]
    · exact finK_drop ⟨_, rfl, .inl ⟨⟨.mk 0 0 0 0 [] ByteArray.empty [], rfl, .leaf rfl nul_form PI_op, leaf_few rfl⟩, rfl, rfl⟩⟩
    · refine ⟨by simp [rdAdd, h1, h2, h3, h4, h5], by simp [rdAdd, h1, h2, h3, h4, h5], ?_⟩
      exact finK_drop ⟨_, rfl, .inl ⟨⟨.mk 1 p.id p.lo p.hi [] ByteArray.empty [], rfl, .leaf rfl (form1 _ _ _) ⟨hp.id, hp.lo, hp.hi, fun v hv => by cases hv⟩, leaf_few rfl⟩, rfl, rfl⟩⟩
    · have hm : (if (16 : Int) < (p.set.length : Nat) then (16 : Int) else (p.set.length : Nat)) = ((min 16 p.set.length : Nat) : Int) := by
        split <;> omega
      rw [hm]
      refine ⟨⟨by omega, by omega, fun x hx => (vl_cells _ x hx).1⟩, ?_⟩
      rw [Int.toNat_natCast, ← List.map_take]
      obtain ⟨R, hR⟩ : ∃ R, p.set.take (min 16 p.set.length) = R := ⟨_, rfl⟩
      have hRl : R.length = min 16 p.set.length := by rw [← hR, List.length_take]; omega
      have hRI : ∀ v ∈ R, I64' v.n := fun v hv => hp.set v (List.mem_of_mem_take (hR ▸ hv))
      rw [hR]
      by_cases h0 : R.length = 0
      · obtain rfl := List.eq_nil_of_length_eq_zero h0
        refine bapV0 eltV zelV (by omega) trivial (srcV .none []) ?_
        try simp only [go_sem, reduceIte, Nat.reduceEqDiff, Nat.reduceAdd, Nat.reduceSub, Nat.reduceMul, Nat.reduceLT, Nat.reduceLeDiff, Nat.reducePow, Int.reduceToNat, Int.reduceLT, Int.reduceLE, Int.reduceEq, Int.reduceNe, Int.reduceAdd, Int.reduceSub, Int.reduceMul, Int.reduceNeg, h1, h2, h3, h4, h5]
        generalize hβ : Heap.set _ b5 _ = β0
        have e5 : β0 b5 = some [.int .i64 2, .int .i64 p.id, .int .i64 0, .int .i64 0, .sl .full [], .str ByteArray.empty, .sl .full []] := hit_set hβ
        have e4 : β0 b4 = some [.int .i64 0, .int .i64 0, .int .i64 0, .int .i64 0, .sl .full [], .str ByteArray.empty, .sl .full []] := by rw [← hβ]; simp [Heap.set, h1, h2, h3, h4, h5]
        clear hβ
        refine vwq_loop (fun v => v.β = β0 ∧ v.ω = [] ∧ v.σ 6 = .int .i64 0 ∧ v.σ 5 = .pb b5 0 ∧ v.σ 4 = .pb b4 0) (fun _ => 0) ⟨rfl, rfl, rfl, rfl, rfl⟩ ?_
        rintro σ β ω ⟨rfl, rfl, q6, q5, q4⟩
        dsimp only at q6 q5 q4 e4 e5
        try simp only [go_sem, reduceIte, Nat.reduceEqDiff, Nat.reduceAdd, Nat.reduceSub, Nat.reduceMul, Nat.reduceLT, Nat.reduceLeDiff, Nat.reducePow, Int.reduceToNat, Int.reduceLT, Int.reduceLE, Int.reduceEq, Int.reduceNe, Int.reduceAdd, Int.reduceSub, Int.reduceMul, Int.reduceNeg, q6, q5, q4, e5, e4, h5]
        exact finK_drop ⟨_, rfl, .inl ⟨⟨.mk 2 p.id 0 0 [] ByteArray.empty [], rfl, .leaf rfl (form2 _ _ (by simp) (fun v hv => by cases hv)) ⟨hp.id, I64'_0, I64'_0, fun v hv => by cases hv⟩, leaf_few rfl⟩, rfl, rfl⟩⟩
      · refine bapVn eltV zelV (by omega) (by omega) trivial (srcV .none R) (by omega) (by omega) fun b f hb hf1 hf2 => ?_
        simp only [set_none] at hb
        have hb5 : (b5 ≠ b ∧ b ≠ b5) ∧ (b4 ≠ b ∧ b ≠ b4) := ⟨hb.1, hb.2.1⟩
        try simp only [go_sem, reduceIte, Nat.reduceEqDiff, Nat.reduceAdd, Nat.reduceSub, Nat.reduceMul, Nat.reduceLT, Nat.reduceLeDiff, Nat.reducePow, Int.reduceToNat, Int.reduceLT, Int.reduceLE, Int.reduceEq, Int.reduceNe, Int.reduceAdd, Int.reduceSub, Int.reduceMul, Int.reduceNeg, h1, h2, h3, h4, h5, hb5]
        generalize hβ : Heap.set _ b5 _ = β0
        have e5 : β0 b5 = some [.int .i64 2, .int .i64 p.id, .int .i64 0, .int .i64 0, .so b 0 R.length f.length, .str ByteArray.empty, .sl .full []] := hit_set hβ
        have e4 : β0 b4 = some [.int .i64 0, .int .i64 0, .int .i64 0, .int .i64 0, .sl .full [], .str ByteArray.empty, .sl .full []] := by rw [← hβ]; simp [Heap.set, h1, h2, h3, h4, h5, hb5]
        have eb : β0 b = some (vflat f) := by rw [← hβ]; simp [Heap.set, hb5]
        clear hβ hb
        have hfI : ∀ i v, f[i]? = some v → i < R.length → I64' v.n ∧ (i < 0 → v.s.size ≤ 200) := fun i v hv hi => ⟨hRI v (by
          rw [← hf1]; exact List.mem_of_getElem? (i := i) (by rw [List.getElem?_take, if_pos hi]; exact hv)), fun h => absurd h (by omega)⟩
        obtain ⟨F, hF⟩ : ∃ F, f.length = F := ⟨_, rfl⟩
        rw [hF] at hf2 e5
        refine vwq_loop (fun v => ∃ (j : Nat) (f : List Vl), j ≤ R.length ∧ f.length = F ∧ (∀ i v, f[i]? = some v → i < R.length → I64' v.n ∧ (i < j → v.s.size ≤ 200)) ∧ v.β b = some (vflat f) ∧ v.β b5 = some [.int .i64 2, .int .i64 p.id, .int .i64 0, .int .i64 0, .so b 0 R.length F, .str ByteArray.empty, .sl .full []] ∧ v.β b4 = some [.int .i64 0, .int .i64 0, .int .i64 0, .int .i64 0, .sl .full [], .str ByteArray.empty, .sl .full []] ∧ v.ω = [] ∧ v.σ 6 = .int .i64 j ∧ v.σ 5 = .pb b5 0 ∧ v.σ 4 = .pb b4 0) (fun v => R.length - (ival (v.σ 6)).toNat) ⟨0, f, by omega, hF, hfI, eb, e5, e4, rfl, rfl, rfl, rfl⟩ ?_
        clear e4 e5 eb hfI hF hf1
        rintro σ β ω ⟨j, f, hj, hF, hfI, eb, e5, e4, rfl, q6, q5, q4⟩
        dsimp only at eb e5 e4 q6 q5 q4
        try simp only [go_sem, reduceIte, Nat.reduceEqDiff, Nat.reduceAdd, Nat.reduceSub, Nat.reduceMul, Nat.reduceLT, Nat.reduceLeDiff, Nat.reducePow, Int.reduceToNat, Int.reduceLT, Int.reduceLE, Int.reduceEq, Int.reduceNe, Int.reduceAdd, Int.reduceSub, Int.reduceMul, Int.reduceNeg, q6, q5, q4, e5, e4, eb]
        refine cd_dec (fun g => ?_) (fun g => ?_)
        · obtain ⟨v, hv⟩ : ∃ v, f[j]? = some v := ⟨f[j]'(by omega), by simp⟩
          have wj := wrap_i64 (x := (j : Int) + 1) (by omega) (by omega)
          have c1 : ((0 : Int) ≤ j) = True := eq_true (by omega)
          have g1 := eq_true g
          have eg := vflat_get2 hv
          have el : (j * 3 + 2 < (vflat f).length) = True := eq_true (by rw [vflat_length]; omega)
          have ho := vflat_obj f
          try simp only [go_sem, reduceIte, Nat.reduceEqDiff, Nat.reduceAdd, Nat.reduceSub, Nat.reduceMul, Nat.reduceLT, Nat.reduceLeDiff, Nat.reducePow, Int.reduceToNat, Int.reduceLT, Int.reduceLE, Int.reduceEq, Int.reduceNe, Int.reduceAdd, Int.reduceSub, Int.reduceMul, Int.reduceNeg, q6, q5, q4, e5, e4, eb, c1, g1, wj, hb5, h5, Nat.zero_add, eg, el, ho]
          refine ⟨⟨by split <;> omega, by split <;> omega⟩, by rw [vflat_length]; omega, ⟨j + 1, f.set j ⟨v.null, v.n, v.s.extract 0 ((if (200 : Int) < (v.s.size : Nat) then (200 : Int) else (v.s.size : Nat)).toNat)⟩, by omega, by simp [hF], fun i w hi hiR => ?_, congrArg some (by have h9 := vflat_set (s := v.s.extract 0 ((if (200 : Int) < (v.s.size : Nat) then (200 : Int) else (v.s.size : Nat)).toNat)) hv; unfold splice at h9; exact h9), rfl⟩, by omega⟩
          rw [List.getElem?_set] at hi
          split at hi
          · subst_vars
            split at hi
            · cases Option.some.inj hi
              refine ⟨(hfI _ v hv hiR).1, fun _ => ?_⟩
              show (ByteArray.extract _ _ _).size ≤ 200
              rw [ByteArray.size_extract]; split <;> omega
            · cases hi
          · obtain ⟨a1, a2⟩ := hfI i w hi hiR
            exact ⟨a1, fun h => a2 (by omega)⟩
        · try simp only [go_sem, reduceIte, Nat.reduceEqDiff, Nat.reduceAdd, Nat.reduceSub, Nat.reduceMul, Nat.reduceLT, Nat.reduceLeDiff, Nat.reducePow, Int.reduceToNat, Int.reduceLT, Int.reduceLE, Int.reduceEq, Int.reduceNe, Int.reduceAdd, Int.reduceSub, Int.reduceMul, Int.reduceNeg, q6, q5, q4, e5, e4, eb, hb5, h5]
          refine finK_exact ⟨_, rfl, .inr ⟨p.id, b, R.length, f, by rw [hF], by simp [Heap.set, hb5, eb], by omega, by omega, hp.id, fun v hv => ?_⟩⟩
          obtain ⟨i, hi⟩ := List.getElem?_of_mem hv
          rw [List.getElem?_take] at hi
          split at hi
          · obtain ⟨a1, a2⟩ := hfI i v hi (by omega)
            exact ⟨a1, a2 (by omega)⟩
          · cases hi
    · refine ⟨⟨by split <;> omega, by split <;> omega⟩, finK_drop ⟨_, rfl, .inl ⟨⟨.mk 3 p.id 0 0 [] (p.text.extract 0 ((if (200 : Int) < (p.text.size : Nat) then (200 : Int) else (p.text.size : Nat)).toNat)) [], rfl, .leaf rfl (form3 _ _ ?_) ⟨hp.id, I64'_0, I64'_0, fun v hv => by cases hv⟩, leaf_few rfl⟩, rfl, rfl⟩⟩⟩
      rw [ByteArray.size_extract]; split <;> omega
    · exact finK_drop ⟨_, rfl, .inl ⟨⟨.mk 4 p.id 0 0 [] ByteArray.empty [], rfl, .leaf rfl (form4 _) ⟨hp.id, I64'_0, I64'_0, fun v hv => by cases hv⟩, leaf_few rfl⟩, rfl, rfl⟩⟩
    · generalize hβ : Heap.set _ b5 _ = β0
      have e5 : β0 b5 = some [.int .i64 5, .int .i64 0, .int .i64 0, .int .i64 0, .sl .full [], .str ByteArray.empty, .sl .full []] := hit_set hβ
      have e4 : β0 b4 = some [.int .i64 0, .int .i64 0, .int .i64 0, .int .i64 0, .sl .full [], .str ByteArray.empty, .sl .full []] := by rw [← hβ]; simp [Heap.set, h1, h2, h3, h4, h5]
      have e2 : β0 b2 = some p.cells := by rw [← hβ]; simp [Heap.set, h1, h2, h3, h4, h5]
      clear hβ
      refine vwq_loop (fun v => ∃ (j : Nat) (qs : List Pr) (t : Tk), j ≤ p.kids.length ∧ j ≤ 16 ∧ qs.length = j ∧ (∀ q ∈ qs, Gd n q) ∧ (subsL qs).length ≤ (subsL (p.kids.take j)).length ∧ TW 7 t v.ω ∧ v.β b2 = some p.cells ∧ v.β b5 = some [.int .i64 5, .int .i64 0, .int .i64 0, .int .i64 0, .sl .full [], .str ByteArray.empty, .sl t (qs.map Pr.d)] ∧ v.β b4 = some [.int .i64 0, .int .i64 0, .int .i64 0, .int .i64 0, .sl .full [], .str ByteArray.empty, .sl .full []] ∧ v.σ 1 = .int .i64 ((n : Int) + 1) ∧ v.σ 2 = .pb b2 0 ∧ v.σ 4 = .pb b4 0 ∧ v.σ 5 = .pb b5 0 ∧ v.σ 7 = .int .i64 j) (fun v => 16 - (ival (v.σ 7)).toNat) ⟨0, [], .full, by omega, by omega, rfl, by simp, by simp [subsL_nil], TW.full 7, e2, e5, e4, rfl, rfl, rfl, rfl, rfl⟩ ?_
      clear e4 e5 e2
      rintro σ β ω ⟨j, qs, t, hj, hj16, hql, hqs, hfw, hw, e2, e5, e4, q1, q2, q4, q5, q7⟩
      dsimp only at hw e2 e5 e4 q1 q2 q4 q5 q7
      have hto := hw.ok
      have htg := hw.gone
      have wn : IntKind.i64.wrap ((n : Int) + 1 - 1) = n := by rw [wrap_i64 (by omega) (by omega)]; omega
      have wj := wrap_i64 (x := (j : Int) + 1) (by omega) (by omega)
      have c1 : ((0 : Int) ≤ j) = True := eq_true (by omega)
      have el : (qs.map Pr.d).length = qs.length := by simp
      try simp only [go_sem, reduceIte, Nat.reduceEqDiff, Nat.reduceAdd, Nat.reduceSub, Nat.reduceMul, Nat.reduceLT, Nat.reduceLeDiff, Nat.reducePow, Int.reduceToNat, Int.reduceLT, Int.reduceLE, Int.reduceEq, Int.reduceNe, Int.reduceAdd, Int.reduceSub, Int.reduceMul, Int.reduceNeg, q1, q2, q4, q5, q7, e2, e5, e4, e7, h2, h4, h5]
      refine cd_dec (fun g => ?_) (fun g => ?_)
      · obtain ⟨⟨g1, g2⟩, g3⟩ := g
        obtain ⟨k, hx, ex⟩ := Pr_at (l := p.kids) (j := j) (by omega)
        have hx' := hx
        have g1' := eq_true g1
        have hih := ih (by omega) k (List.mem_of_getElem? hx)
        simp only [Pr.cells] at hih
        try simp only [go_sem, reduceIte, Nat.reduceEqDiff, Nat.reduceAdd, Nat.reduceSub, Nat.reduceMul, Nat.reduceLT, Nat.reduceLeDiff, Nat.reducePow, Int.reduceToNat, Int.reduceLT, Int.reduceLE, Int.reduceEq, Int.reduceNe, Int.reduceAdd, Int.reduceSub, Int.reduceMul, Int.reduceNeg, q1, q2, q4, q5, q7, e2, e5, e4, e7, h2, h4, h5, ex, g1', c1, wn]
        refine cE_vx hih (by obtain ⟨m, rfl⟩ : ∃ m, n = m + 1 := ⟨n - 1, by omega⟩
                             exact isGd_any m k) ?_
        rintro _ ⟨q, rfl, hq, hqf⟩
        try simp only [go_sem, reduceIte, Nat.reduceEqDiff, Nat.reduceAdd, Nat.reduceSub, Nat.reduceMul, Nat.reduceLT, Nat.reduceLeDiff, Nat.reducePow, Int.reduceToNat, Int.reduceLT, Int.reduceLE, Int.reduceEq, Int.reduceNe, Int.reduceAdd, Int.reduceSub, Int.reduceMul, Int.reduceNeg, q1, q2, q4, q5, q7, e2, e5, e4, e7, h2, h4, h5, ex, g1', c1, wn, Pr.cells, hto, htg, el, wj]
        refine ⟨pr_cells _, by omega, fun t' _ => ⟨by simp [rdAdd, h1, h2, h3, h4, h5], ⟨j + 1, qs ++ [q], .live t' 7, by omega, by omega, by simp [hql], fun x hx => ?_, few_step hfw hx' hqf, TW.live 7 t', ?_⟩, by omega⟩⟩
        · rcases List.mem_append.1 hx with hx | hx
          · exact hqs x hx
          · rw [List.mem_singleton] at hx; subst hx; exact hq
        exact ⟨by simp [Pr.d_eq, Pr.cells], rfl⟩
      · try simp only [go_sem, reduceIte, Nat.reduceEqDiff, Nat.reduceAdd, Nat.reduceSub, Nat.reduceMul, Nat.reduceLT, Nat.reduceLeDiff, Nat.reducePow, Int.reduceToNat, Int.reduceLT, Int.reduceLE, Int.reduceEq, Int.reduceNe, Int.reduceAdd, Int.reduceSub, Int.reduceMul, Int.reduceNeg, q1, q2, q4, q5, q7, e2, e5, e4, e7, h2, h4, h5, el]
        exact finK_drop ⟨_, rfl, .inl ⟨⟨.mk 5 0 0 0 [] ByteArray.empty qs, rfl, .node hqs (formK 5 qs (by omega) (by omega) (by omega)) PI_op, node_few hfw⟩, rfl, rfl⟩⟩
    · generalize hβ : Heap.set _ b5 _ = β0
      have e5 : β0 b5 = some [.int .i64 6, .int .i64 0, .int .i64 0, .int .i64 0, .sl .full [], .str ByteArray.empty, .sl .full []] := hit_set hβ
      have e4 : β0 b4 = some [.int .i64 0, .int .i64 0, .int .i64 0, .int .i64 0, .sl .full [], .str ByteArray.empty, .sl .full []] := by rw [← hβ]; simp [Heap.set, h1, h2, h3, h4, h5]
      have e2 : β0 b2 = some p.cells := by rw [← hβ]; simp [Heap.set, h1, h2, h3, h4, h5]
      clear hβ
      refine vwq_loop (fun v => ∃ (j : Nat) (qs : List Pr) (t : Tk), j ≤ p.kids.length ∧ j ≤ 16 ∧ qs.length = j ∧ (∀ q ∈ qs, Gd n q) ∧ (subsL qs).length ≤ (subsL (p.kids.take j)).length ∧ TW 7 t v.ω ∧ v.β b2 = some p.cells ∧ v.β b5 = some [.int .i64 6, .int .i64 0, .int .i64 0, .int .i64 0, .sl .full [], .str ByteArray.empty, .sl t (qs.map Pr.d)] ∧ v.β b4 = some [.int .i64 0, .int .i64 0, .int .i64 0, .int .i64 0, .sl .full [], .str ByteArray.empty, .sl .full []] ∧ v.σ 1 = .int .i64 ((n : Int) + 1) ∧ v.σ 2 = .pb b2 0 ∧ v.σ 4 = .pb b4 0 ∧ v.σ 5 = .pb b5 0 ∧ v.σ 7 = .int .i64 j) (fun v => 16 - (ival (v.σ 7)).toNat) ⟨0, [], .full, by omega, by omega, rfl, by simp, by simp [subsL_nil], TW.full 7, e2, e5, e4, rfl, rfl, rfl, rfl, rfl⟩ ?_
      clear e4 e5 e2
      rintro σ β ω ⟨j, qs, t, hj, hj16, hql, hqs, hfw, hw, e2, e5, e4, q1, q2, q4, q5, q7⟩
      dsimp only at hw e2 e5 e4 q1 q2 q4 q5 q7
      have hto := hw.ok
      have htg := hw.gone
      have wn : IntKind.i64.wrap ((n : Int) + 1 - 1) = n := by rw [wrap_i64 (by omega) (by omega)]; omega
      have wj := wrap_i64 (x := (j : Int) + 1) (by omega) (by omega)
      have c1 : ((0 : Int) ≤ j) = True := eq_true (by omega)
      have el : (qs.map Pr.d).length = qs.length := by simp
      try simp only [go_sem, reduceIte, Nat.reduceEqDiff, Nat.reduceAdd, Nat.reduceSub, Nat.reduceMul, Nat.reduceLT, Nat.reduceLeDiff, Nat.reducePow, Int.reduceToNat, Int.reduceLT, Int.reduceLE, Int.reduceEq, Int.reduceNe, Int.reduceAdd, Int.reduceSub, Int.reduceMul, Int.reduceNeg, q1, q2, q4, q5, q7, e2, e5, e4, e7, h2, h4, h5]
      refine cd_dec (fun g => ?_) (fun g => ?_)
      · obtain ⟨⟨g1, g2⟩, g3⟩ := g
        obtain ⟨k, hx, ex⟩ := Pr_at (l := p.kids) (j := j) (by omega)
        have hx' := hx
        have g1' := eq_true g1
        have hih := ih (by omega) k (List.mem_of_getElem? hx)
        simp only [Pr.cells] at hih
        try simp only [go_sem, reduceIte, Nat.reduceEqDiff, Nat.reduceAdd, Nat.reduceSub, Nat.reduceMul, Nat.reduceLT, Nat.reduceLeDiff, Nat.reducePow, Int.reduceToNat, Int.reduceLT, Int.reduceLE, Int.reduceEq, Int.reduceNe, Int.reduceAdd, Int.reduceSub, Int.reduceMul, Int.reduceNeg, q1, q2, q4, q5, q7, e2, e5, e4, e7, h2, h4, h5, ex, g1', c1, wn]
        refine cE_vx hih (by obtain ⟨m, rfl⟩ : ∃ m, n = m + 1 := ⟨n - 1, by omega⟩
                             exact isGd_any m k) ?_
        rintro _ ⟨q, rfl, hq, hqf⟩
        try simp only [go_sem, reduceIte, Nat.reduceEqDiff, Nat.reduceAdd, Nat.reduceSub, Nat.reduceMul, Nat.reduceLT, Nat.reduceLeDiff, Nat.reducePow, Int.reduceToNat, Int.reduceLT, Int.reduceLE, Int.reduceEq, Int.reduceNe, Int.reduceAdd, Int.reduceSub, Int.reduceMul, Int.reduceNeg, q1, q2, q4, q5, q7, e2, e5, e4, e7, h2, h4, h5, ex, g1', c1, wn, Pr.cells, hto, htg, el, wj]
        refine ⟨pr_cells _, by omega, fun t' _ => ⟨by simp [rdAdd, h1, h2, h3, h4, h5], ⟨j + 1, qs ++ [q], .live t' 7, by omega, by omega, by simp [hql], fun x hx => ?_, few_step hfw hx' hqf, TW.live 7 t', ?_⟩, by omega⟩⟩
        · rcases List.mem_append.1 hx with hx | hx
          · exact hqs x hx
          · rw [List.mem_singleton] at hx; subst hx; exact hq
        exact ⟨by simp [Pr.d_eq, Pr.cells], rfl⟩
      · try simp only [go_sem, reduceIte, Nat.reduceEqDiff, Nat.reduceAdd, Nat.reduceSub, Nat.reduceMul, Nat.reduceLT, Nat.reduceLeDiff, Nat.reducePow, Int.reduceToNat, Int.reduceLT, Int.reduceLE, Int.reduceEq, Int.reduceNe, Int.reduceAdd, Int.reduceSub, Int.reduceMul, Int.reduceNeg, q1, q2, q4, q5, q7, e2, e5, e4, e7, h2, h4, h5, el]
        exact finK_drop ⟨_, rfl, .inl ⟨⟨.mk 6 0 0 0 [] ByteArray.empty qs, rfl, .node hqs (formK 6 qs (by omega) (by omega) (by omega)) PI_op, node_few hfw⟩, rfl, rfl⟩⟩
    · generalize hβ : Heap.set _ b5 _ = β0
      have e5 : β0 b5 = some [.int .i64 7, .int .i64 0, .int .i64 0, .int .i64 0, .sl .full [], .str ByteArray.empty, .sl .full []] := hit_set hβ
      have e4 : β0 b4 = some [.int .i64 0, .int .i64 0, .int .i64 0, .int .i64 0, .sl .full [], .str ByteArray.empty, .sl .full []] := by rw [← hβ]; simp [Heap.set, h1, h2, h3, h4, h5]
      have e2 : β0 b2 = some p.cells := by rw [← hβ]; simp [Heap.set, h1, h2, h3, h4, h5]
      clear hβ
      refine vwq_loop (fun v => ∃ (j : Nat) (qs : List Pr) (t : Tk), j ≤ p.kids.length ∧ j ≤ 16 ∧ qs.length = j ∧ j ≤ 1 ∧ (∀ q ∈ qs, Gd n q) ∧ (subsL qs).length ≤ (subsL (p.kids.take j)).length ∧ TW 7 t v.ω ∧ v.β b2 = some p.cells ∧ v.β b5 = some [.int .i64 7, .int .i64 0, .int .i64 0, .int .i64 0, .sl .full [], .str ByteArray.empty, .sl t (qs.map Pr.d)] ∧ v.β b4 = some [.int .i64 0, .int .i64 0, .int .i64 0, .int .i64 0, .sl .full [], .str ByteArray.empty, .sl .full []] ∧ v.σ 1 = .int .i64 ((n : Int) + 1) ∧ v.σ 2 = .pb b2 0 ∧ v.σ 4 = .pb b4 0 ∧ v.σ 5 = .pb b5 0 ∧ v.σ 7 = .int .i64 j) (fun v => 16 - (ival (v.σ 7)).toNat) ⟨0, [], .full, by omega, by omega, rfl, by omega, by simp, by simp [subsL_nil], TW.full 7, e2, e5, e4, rfl, rfl, rfl, rfl, rfl⟩ ?_
      clear e4 e5 e2
      rintro σ β ω ⟨j, qs, t, hj, hj16, hql, h71, hqs, hfw, hw, e2, e5, e4, q1, q2, q4, q5, q7⟩
      dsimp only at hw e2 e5 e4 q1 q2 q4 q5 q7
      have hto := hw.ok
      have htg := hw.gone
      have wn : IntKind.i64.wrap ((n : Int) + 1 - 1) = n := by rw [wrap_i64 (by omega) (by omega)]; omega
      have wj := wrap_i64 (x := (j : Int) + 1) (by omega) (by omega)
      have c1 : ((0 : Int) ≤ j) = True := eq_true (by omega)
      have el : (qs.map Pr.d).length = qs.length := by simp
      try simp only [go_sem, reduceIte, Nat.reduceEqDiff, Nat.reduceAdd, Nat.reduceSub, Nat.reduceMul, Nat.reduceLT, Nat.reduceLeDiff, Nat.reducePow, Int.reduceToNat, Int.reduceLT, Int.reduceLE, Int.reduceEq, Int.reduceNe, Int.reduceAdd, Int.reduceSub, Int.reduceMul, Int.reduceNeg, q1, q2, q4, q5, q7, e2, e5, e4, e7, h2, h4, h5]
      refine cd_dec (fun g => ?_) (fun g => ?_)
      · obtain ⟨⟨g1, g2⟩, g3⟩ := g
        obtain ⟨k, hx, ex⟩ := Pr_at (l := p.kids) (j := j) (by omega)
        have hx' := hx
        have g1' := eq_true g1
        have hih := ih (by omega) k (List.mem_of_getElem? hx)
        simp only [Pr.cells] at hih
        by_cases j1 : j = 1
        · have c9 : ((0 : Int) < (j : Nat)) = True := eq_true (by omega)
          try simp only [go_sem, reduceIte, Nat.reduceEqDiff, Nat.reduceAdd, Nat.reduceSub, Nat.reduceMul, Nat.reduceLT, Nat.reduceLeDiff, Nat.reducePow, Int.reduceToNat, Int.reduceLT, Int.reduceLE, Int.reduceEq, Int.reduceNe, Int.reduceAdd, Int.reduceSub, Int.reduceMul, Int.reduceNeg, q1, q2, q4, q5, q7, e2, e5, e4, e7, h2, h4, h5, ex, g1', c1, wn, c9]
          refine cd_dec (fun g0 => absurd g0 (by rw [List.length_map]; omega)) (fun g0 => ?_)
          try simp only [go_sem, reduceIte, Nat.reduceEqDiff, Nat.reduceAdd, Nat.reduceSub, Nat.reduceMul, Nat.reduceLT, Nat.reduceLeDiff, Nat.reducePow, Int.reduceToNat, Int.reduceLT, Int.reduceLE, Int.reduceEq, Int.reduceNe, Int.reduceAdd, Int.reduceSub, Int.reduceMul, Int.reduceNeg, q1, q2, q4, q5, q7, e2, e5, e4, e7, h2, h4, h5, el]
          exact finK_drop ⟨_, rfl, .inl ⟨⟨.mk 7 0 0 0 [] ByteArray.empty qs, rfl, .node hqs (formK 7 qs (by omega) (by omega) (by omega)) PI_op, node_few hfw⟩, rfl, rfl⟩⟩
        have c9 : ((0 : Int) < (j : Nat)) = False := eq_false (by omega)
        try simp only [go_sem, reduceIte, Nat.reduceEqDiff, Nat.reduceAdd, Nat.reduceSub, Nat.reduceMul, Nat.reduceLT, Nat.reduceLeDiff, Nat.reducePow, Int.reduceToNat, Int.reduceLT, Int.reduceLE, Int.reduceEq, Int.reduceNe, Int.reduceAdd, Int.reduceSub, Int.reduceMul, Int.reduceNeg, q1, q2, q4, q5, q7, e2, e5, e4, e7, h2, h4, h5, ex, g1', c1, wn, c9]
        refine cE_vx hih (by obtain ⟨m, rfl⟩ : ∃ m, n = m + 1 := ⟨n - 1, by omega⟩
                             exact isGd_any m k) ?_
        rintro _ ⟨q, rfl, hq, hqf⟩
        try simp only [go_sem, reduceIte, Nat.reduceEqDiff, Nat.reduceAdd, Nat.reduceSub, Nat.reduceMul, Nat.reduceLT, Nat.reduceLeDiff, Nat.reducePow, Int.reduceToNat, Int.reduceLT, Int.reduceLE, Int.reduceEq, Int.reduceNe, Int.reduceAdd, Int.reduceSub, Int.reduceMul, Int.reduceNeg, q1, q2, q4, q5, q7, e2, e5, e4, e7, h2, h4, h5, ex, g1', c1, wn, Pr.cells, hto, htg, el, wj]
        refine ⟨pr_cells _, by omega, fun t' _ => ⟨by simp [rdAdd, h1, h2, h3, h4, h5], ⟨j + 1, qs ++ [q], .live t' 7, by omega, by omega, by simp [hql], by omega, fun x hx => ?_, few_step hfw hx' hqf, TW.live 7 t', ?_⟩, by omega⟩⟩
        · rcases List.mem_append.1 hx with hx | hx
          · exact hqs x hx
          · rw [List.mem_singleton] at hx; subst hx; exact hq
        exact ⟨by simp [Pr.d_eq, Pr.cells], rfl⟩
      · try simp only [go_sem, reduceIte, Nat.reduceEqDiff, Nat.reduceAdd, Nat.reduceSub, Nat.reduceMul, Nat.reduceLT, Nat.reduceLeDiff, Nat.reducePow, Int.reduceToNat, Int.reduceLT, Int.reduceLE, Int.reduceEq, Int.reduceNe, Int.reduceAdd, Int.reduceSub, Int.reduceMul, Int.reduceNeg, q1, q2, q4, q5, q7, e2, e5, e4, e7, h2, h4, h5, el]
        refine cd_dec (fun g0 => ?_) (fun g0 => ?_)
        · try simp only [go_sem, reduceIte, Nat.reduceEqDiff, Nat.reduceAdd, Nat.reduceSub, Nat.reduceMul, Nat.reduceLT, Nat.reduceLeDiff, Nat.reducePow, Int.reduceToNat, Int.reduceLT, Int.reduceLE, Int.reduceEq, Int.reduceNe, Int.reduceAdd, Int.reduceSub, Int.reduceMul, Int.reduceNeg, q1, q2, q4, q5, q7, e2, e5, e4, e7, h2, h4, h5, el]
          exact finK_drop ⟨_, rfl, .inl ⟨⟨.mk 0 0 0 0 [] ByteArray.empty [], rfl, .leaf rfl nul_form PI_op, leaf_few rfl⟩, rfl, rfl⟩⟩
        · try simp only [go_sem, reduceIte, Nat.reduceEqDiff, Nat.reduceAdd, Nat.reduceSub, Nat.reduceMul, Nat.reduceLT, Nat.reduceLeDiff, Nat.reducePow, Int.reduceToNat, Int.reduceLT, Int.reduceLE, Int.reduceEq, Int.reduceNe, Int.reduceAdd, Int.reduceSub, Int.reduceMul, Int.reduceNeg, q1, q2, q4, q5, q7, e2, e5, e4, e7, h2, h4, h5, el]
          exact finK_drop ⟨_, rfl, .inl ⟨⟨.mk 7 0 0 0 [] ByteArray.empty qs, rfl, .node hqs (formK 7 qs (by omega) (by omega) (by omega)) PI_op, node_few hfw⟩, rfl, rfl⟩⟩
  · rintro d β' ω' ⟨d', h1, h⟩
    cases h1
    rcases h with ⟨hd, rfl, rfl⟩ | ⟨id, b, m, f, rfl, hb, hm, h16, hid, hv⟩
    · exact Turn.refl ⟨_, hd, rfl, rfl, rfl⟩
    · refine Turn.bind (Turn.freezeIn (m := 3) (xs := (f.take m).map Vl.d) (pre := [.int .i64 2, .int .i64 id, .int .i64 0, .int .i64 0]) (post := [.str ByteArray.empty, .sl .full []]) hb (vflat_obj f) hm (by rw [vflat_length]; omega) ?_ (fun x hx => (vl_cells _ x hx).1) (by simp; omega) (by simp [mostLen]; omega)) ?_
      · rw [vflat_take f m hm]; rfl
      · rintro d β ω ⟨t, ht, rfl, rfl, rfl⟩
        exact Turn.weak (finK_drop ⟨_, ⟨.mk 2 id 0 0 (f.take m) ByteArray.empty [], by simp [D.er, D.er1, Pr.cells, Pr.op, Pr.id, Pr.lo, Pr.hi, Pr.set, Pr.text, Pr.kids, vl_er, ← List.map_take], .leaf rfl (form2 _ _ (by simp; omega) fun v h => (hv v h).2) ⟨hid, I64'_0, I64'_0, fun v h => (hv v h).1⟩, leaf_few rfl⟩, rfl, rfl, rfl⟩)
  · rintro d β' ω' ⟨d', h1, _⟩
    cases h1
theorem Form_ok : ∀ (n : Nat), n ≤ 7 → ∀ (p : Pr), (∀ s ∈ subs p, PI s) → VX P G 16 [.agg p.cells, .int .i64 ((n : Int) + 1)] (isGd (n + 1) (subs p).length)
  | 0, _, p, hp => Form_step 0 (by omega) p (hp p (by rw [subs_eq]; simp)) fun h => absurd h (by omega)
  | n + 1, hn, p, hp => Form_step (n + 1) hn p (hp p (by rw [subs_eq]; simp)) fun _ k hk => Form_ok n (by omega) k fun s hs => hp s (by
      rw [subs_eq, subsL_flat]; exact List.mem_cons_of_mem _ (List.mem_flatMap.2 ⟨k, hk, hs⟩))
end Go.Proofs.YtbfkhepfgibonaaS
