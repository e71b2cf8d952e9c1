/-
  Predicates: the fixed examples of fenlandlaw08 (sanity).
-/
import Derived.Test.YtbfkhepfgibonaaGreatP1
import Derived.Test.YtbfkhepfgibonaaGreatQ3
import Derived.Test.YtbfkhepfgibonaaGreatQ5
import Derived.Test.YtbfkhepfgibonaaGreatQ6
import Derived.Test.YtbfkhepfgibonaaGreatQ7
import Derived.Test.YtbfkhepfgibonaaGreatQ8
set_option linter.unusedVariables false
set_option linter.unusedSimpArgs false
namespace Go.Proofs.YtbfkhepfgibonaaGreatS
open Go Go.Proofs.YtbfkhepfgibonaaGreatV

variable {G : Heap}
attribute [local irreducible] VN VC VX VQ VY VW VTA

def btP (id lo hi : Int) : Pr := .mk 1 id lo hi [] ByteArray.empty []
def nlP (id : Int) : Pr := .mk 4 id 0 0 [] ByteArray.empty []
theorem between_ok (id lo hi : Int) : VN P G 26 [.int .i64 id, .int .i64 lo, .int .i64 hi] (.agg (btP id lo hi).cells) := by
  unfold VN
  refine VC.ofc (fun | 99999999 => [(0, [0, 1, 2, 6])] | _ => []) [.cell 6 25] mixed Tryz.func26 rfl rfl rfl rfl (by decide +kernel) (by simp) ?_
  simp only [go_sem, reduceIte, Nat.reduceEqDiff, Nat.reduceAdd, Nat.reduceSub, Nat.reduceMul, Nat.reduceLT, Nat.reduceLeDiff, Nat.reducePow, Int.reduceToNat, Int.reduceLT, Int.reduceLE, Int.reduceEq, Int.reduceNe, Int.reduceAdd, Int.reduceSub, Int.reduceMul, Int.reduceNeg]
  intro b
  exact finK_drop ⟨rfl, rfl, rfl⟩
theorem null_ok (id : Int) : VN P G 27 [.int .i64 id] (.agg (nlP id).cells) := by
  unfold VN
  refine VC.ofc (fun | 99999999 => [(0, [0, 2])] | _ => []) [.cell 2 25] mixed Tryz.func27 rfl rfl rfl rfl (by decide +kernel) (by simp) ?_
  simp only [go_sem, reduceIte, Nat.reduceEqDiff, Nat.reduceAdd, Nat.reduceSub, Nat.reduceMul, Nat.reduceLT, Nat.reduceLeDiff, Nat.reducePow, Int.reduceToNat, Int.reduceLT, Int.reduceLE, Int.reduceEq, Int.reduceNe, Int.reduceAdd, Int.reduceSub, Int.reduceMul, Int.reduceNeg]
  intro b
  exact finK_drop ⟨rfl, rfl, rfl⟩
def inL : Pr := .mk 2 2 0 0 [⟨false, 0, ⟨#[97, 98]⟩⟩] ByteArray.empty []
def pfL : Pr := .mk 3 2 0 0 [] ⟨#[97]⟩ []
def rwL : Rw := [(1, ⟨false, 5, ByteArray.empty⟩), (2, ⟨false, 0, ⟨#[97, 98]⟩⟩)]
def rwX : List D := [.agg [.int .i64 1, .bool false, .int .i64 5, .str ByteArray.empty], .agg [.int .i64 2, .bool false, .int .i64 0, .str ⟨#[97, 98]⟩]]
def treeL : Pr := opP 6 [nlP 2, btP 1 0 4, nlP 2]
def fdL : List Fd := [⟨1, ByteArray.empty, 3, 0⟩, ⟨2, ByteArray.empty, 4, 0⟩]
def inX (t1 t2 : Tk) : List D := [.int .i64 2, .int .i64 2, .int .i64 0, .int .i64 0, .sl t1 [.agg [.bool false, .int .i64 0, .str ⟨#[97, 98]⟩]], .str ByteArray.empty, .sl t2 []]
def pfX (t1 t2 : Tk) : List D := [.int .i64 3, .int .i64 2, .int .i64 0, .int .i64 0, .sl t1 [], .str ⟨#[97]⟩, .sl t2 []]
def nuX (t1 t2 : Tk) : List D := [.int .i64 0, .int .i64 0, .int .i64 0, .int .i64 0, .sl t1 [], .str ByteArray.empty, .sl t2 []]
def scX (t : Tk) : List D := [.sl t [.agg [.int .i64 1, .str ByteArray.empty, .int .i64 3, .int .i64 0], .agg [.int .i64 2, .str ByteArray.empty, .int .i64 4, .int .i64 0]], .int .i64 0]
theorem evL (p : Pr) (v : Int) (t : Tk) (h : evalP rwL p = v) : VN P G 8 [.agg p.cells, .agg [.sl t rwX]] (.int .i64 v) := by
  subst h
  refine VN.er ?_
  exact pEval_ok rwL p
theorem evIn (t1 t2 t : Tk) : VN P G 8 [.agg (inX t1 t2), .agg [.sl t rwX]] (.int .i64 1) := by
  refine VN.er ?_
  have h := evL (G := G) inL 1 .none (by decide +kernel)
  exact h
theorem evPf (t1 t2 t : Tk) : VN P G 8 [.agg (pfX t1 t2), .agg [.sl t rwX]] (.int .i64 1) := by
  refine VN.er ?_
  have h := evL (G := G) pfL 1 .none (by decide +kernel)
  exact h
theorem matchL (t : Tk) : VN P G 10 [.agg (btP 3 0 9).cells, .agg [.sl t rwX]] (.bool false) := by
  refine VN.er ?_
  have h := pMatch_ok (G := G) rwL (btP 3 0 9)
  rw [show matchF (btP 3 0 9) rwL = false from by decide +kernel] at h
  exact h
theorem inc_uniq : ∀ {l m : List Int}, l.Pairwise (· < ·) → m.Pairwise (· < ·) → (∀ x, x ∈ l ↔ x ∈ m) → l = m
  | [], [], _, _, _ => rfl
  | [], y :: m, _, _, h => by have := (h y).2 (by simp); simp at this
  | x :: l, [], _, _, h => by have := (h x).1 (by simp); simp at this
  | x :: l, y :: m, h1, h2, h => by
    obtain ⟨a1, b1⟩ := List.pairwise_cons.1 h1
    obtain ⟨a2, b2⟩ := List.pairwise_cons.1 h2
    have e : x = y := by
      have p1 := (h x).1 (by simp)
      have p2 := (h y).2 (by simp)
      rcases List.mem_cons.1 p1 with rfl | p1
      · rfl
      · rcases List.mem_cons.1 p2 with rfl | p2
        · rfl
        · have := a2 x p1; have := a1 y p2; omega
    subst e
    rw [inc_uniq b1 b2 fun z => ?_]
    have hz := h z
    simp only [List.mem_cons] at hz
    constructor
    · intro hm
      have := a1 z hm
      rcases hz.1 (.inr hm) with rfl | hm
      · omega
      · exact hm
    · intro hm
      have := a2 z hm
      rcases hz.2 (.inr hm) with rfl | hm
      · omega
      · exact hm
theorem fieldsL : fieldsF treeL = [1, 2] := by
  obtain ⟨h1, h2⟩ := fieldsF_spec treeL
  refine inc_uniq h1 (by decide) fun x => ?_
  rw [h2, show atomIds (subs treeL) = [2, 1, 2] from by decide +kernel]
  simp only [List.mem_cons, List.not_mem_nil, or_false]
  omega
theorem fdsL : VN P G 13 [.agg treeL.cells] (.sl .none [.int .i64 1, .int .i64 2]) := by
  have h := Fields_ok (G := G) treeL (by rw [show (subs treeL).length = 4 from by decide +kernel]; omega)
  rw [fieldsL] at h
  exact h
theorem sizeL : VN P G 15 [.agg treeL.cells] (.int .i64 4) := by
  have h := Size_ok (G := G) treeL (by rw [show (subs treeL).length = 4 from by decide +kernel]; omega)
  rw [show (subs treeL).length = 4 from by decide +kernel] at h
  exact h
theorem intsL (t1 t2 : Tk) : VN P G 12 [.sl t1 [.int .i64 1, .int .i64 2], .sl t2 [.int .i64 1, .int .i64 2]] (.bool true) := by
  have h := Ints_ok (G := G) t1 t2 [1, 2] [1, 2]
  rw [decide_eq_true rfl] at h
  exact h
theorem sEncL (tk : Tk) (b : List Nat) (p : Pr) (x : List Nat) (hb : b.length ≤ 2^40) (hn : (subs p).length ≤ 4000000) (hi : ∀ q ∈ subs p, PI q) (h : (b ++ if wellF p then encP p else []) = x) : VN P G 23 [.sl tk (bs b), .agg p.cells] (.sl .none (bs x)) := by
  subst h
  exact (pEncode_ta tk b p hb hn hi).vn
theorem pDecF_err {b : List Nat} {at_ : Int} (h : (pDecF b at_).2.2 ≠ 0) : pDecF b at_ = (Pr.nul, 0, (pDecF b at_).2.2) := by
  unfold pDecF at h ⊢
  split
  · rfl
  · dsimp only at h ⊢
    split
    · rename_i k g; rw [if_neg k, if_pos g] at h; exact absurd rfl h
    · rfl
theorem decL (tk : Tk) (b : List Nat) (at_ : Int) (e : Int) (hb : Byt b) (hl : b.length ≤ 1099511627776) (he : e ≠ 0) (h : (pDecF b at_).2.2 = e) : VN P G 20 [.sl tk (bs b), .int .i64 at_] (.tup [.agg Pr.nul.cells, .int .i64 0, .int .i64 e]) := by
  have h0 := pDecode_ok (G := G) tk b at_ hb hl
  rw [pDecF_err (by rw [h]; exact he), h] at h0
  exact h0
theorem valL (t : Tk) (p : Pr) (v : Bool) (h : validF fdL p = v) : VN P G 17 [.agg (scX t), .agg p.cells] (.bool v) := by
  subst h
  refine VN.er ?_
  exact pValid_ok fdL 0 p
theorem valIn (t t1 t2 : Tk) : VN P G 17 [.agg (scX t), .agg (inX t1 t2)] (.bool true) := by
  refine VN.er ?_
  exact valL (G := G) .none inL true (by decide +kernel)
theorem valNu (t t1 t2 : Tk) : VN P G 17 [.agg [.sl t [], .int .i64 0], .agg (nuX t1 t2)] (.bool true) := by
  refine VN.er ?_
  have h := pValid_ok (G := G) [] 0 Pr.nul
  rw [show validF [] Pr.nul = true from by decide +kernel] at h
  exact h
theorem notNu (t1 t2 : Tk) : VN P G 28 [.agg (nuX t1 t2)] (.agg (notP Pr.nul).cells) := by
  refine VN.er ?_
  exact not_ok (G := G) Pr.nul
def pib (q : Pr) : Bool := decide (I64' q.id) && decide (I64' q.lo) && decide (I64' q.hi) && q.set.all fun v => decide (I64' v.n)
theorem sPI {l : List Pr} (h : l.all pib = true) : ∀ q ∈ l, PI q := fun q hq => by
  have := List.all_eq_true.1 h q hq
  simp only [pib, Bool.and_eq_true, decide_eq_true_eq, List.all_eq_true] at this
  exact ⟨this.1.1.1, this.1.1.2, this.1.2, this.2⟩
set_option maxRecDepth 100000 in
set_option maxHeartbeats 8000000 in
theorem law08_sanity_ok : VN P G 6 [] (.bool true) := by
  have hi1 : ∀ q ∈ subs (btP 3 0 64), PI q := sPI (by decide +kernel)
  have hi2 : ∀ q ∈ subs (notP Pr.nul), PI q := sPI (by decide +kernel)
  have hi3 : ∀ q ∈ subs (opP 7 []), PI q := sPI (by decide +kernel)
  unfold VN
  refine VC.ofs (fun | 4 => [(1, [0]), (0, []), (2, []), (3, []), (4, []), (6, [5]), (5, []), (7, []), (8, []), (9, []), (10, []), (12, [11]), (11, []), (13, []), (14, []), (15, []), (16, []), (17, []), (18, []), (19, []), (20, []), (21, []), (22, []), (23, []), (24, []), (25, []), (26, []), (27, []), (28, []), (30, [29]), (29, []), (31, []), (32, []), (33, []), (34, []), (37, [35, 36]), (35, []), (36, []), (38, []), (39, []), (40, []), (41, [])] | 6 => [(4, [0, 1, 3]), (0, []), (1, []), (2, []), (3, []), (5, []), (6, []), (7, []), (12, [8, 9, 11]), (8, []), (9, []), (10, []), (11, []), (13, []), (14, []), (15, []), (16, []), (18, [17]), (17, []), (19, []), (20, []), (21, []), (22, []), (24, [23]), (23, []), (25, []), (26, []), (27, []), (28, []), (30, [29]), (29, []), (31, []), (32, []), (33, []), (34, []), (36, [35]), (35, []), (37, []), (38, []), (39, []), (40, [])] | 15 => [(0, []), (1, []), (2, []), (3, []), (4, [5, 6, 8]), (5, []), (6, []), (7, []), (8, []), (9, []), (10, []), (11, []), (12, [13]), (13, []), (14, []), (15, []), (16, []), (17, []), (18, [19]), (19, []), (20, []), (21, []), (22, []), (23, []), (24, []), (25, []), (26, []), (27, []), (28, []), (29, []), (30, []), (31, []), (32, []), (33, [])] | 99999999 => [(0, [0, 1, 2, 3, 4, 5, 6, 7, 8, 11, 14, 17, 20, 23, 24, 25])] | _ => []) [0] mixed Tryz.func6 rfl rfl rfl rfl (by decide +kernel) (by simp) ?_
  simp only [go_sem, reduceIte, Nat.reduceEqDiff, Nat.reduceAdd, Nat.reduceSub, Nat.reduceMul, Nat.reduceLT, Nat.reduceLeDiff, Nat.reducePow, Int.reduceToNat, Int.reduceLT, Int.reduceLE, Int.reduceEq, Int.reduceNe, Int.reduceAdd, Int.reduceSub, Int.reduceMul, Int.reduceNeg]
  refine fun b1 => new_1 fun b2 q1 q2 => new_2 fun b3 q3 q4 q5 => ?_
  try simp only [go_sem, reduceIte, Nat.reduceEqDiff, Nat.reduceAdd, Nat.reduceSub, Nat.reduceMul, Nat.reduceLT, Nat.reduceLeDiff, Nat.reducePow, Int.reduceToNat, Int.reduceLT, Int.reduceLE, Int.reduceEq, Int.reduceNe, Int.reduceAdd, Int.reduceSub, Int.reduceMul, Int.reduceNeg, q1, q2, q3, q4, q5]
  generalize hβ : Heap.set _ b3 _ = β0
  have e1 : β0 b1 = some [.sl .full rwX] := by rw [← hβ]; simp [Heap.set, q1, q2, q3, q4, q5]; rfl
  have e2 : β0 b2 = some (inX .full .full) := by rw [← hβ]; simp [Heap.set, q1, q2, q3, q4, q5]; rfl
  have e3 : β0 b3 = some (pfX .full .full) := by rw [← hβ]; simp [Heap.set]; rfl
  clear hβ
  simp only [rwX, inX, pfX] at e1 e2 e3
  try simp only [go_sem, reduceIte, Nat.reduceEqDiff, Nat.reduceAdd, Nat.reduceSub, Nat.reduceMul, Nat.reduceLT, Nat.reduceLeDiff, Nat.reducePow, Int.reduceToNat, Int.reduceLT, Int.reduceLE, Int.reduceEq, Int.reduceNe, Int.reduceAdd, Int.reduceSub, Int.reduceMul, Int.reduceNeg, e1, e2, e3]
  (first | refine cK_vn (between_ok 1 0 4) ?_ | refine cE_vn (between_ok 1 0 4) ?_)
  try simp only [go_sem, reduceIte, Nat.reduceEqDiff, Nat.reduceAdd, Nat.reduceSub, Nat.reduceMul, Nat.reduceLT, Nat.reduceLeDiff, Nat.reducePow, Int.reduceToNat, Int.reduceLT, Int.reduceLE, Int.reduceEq, Int.reduceNe, Int.reduceAdd, Int.reduceSub, Int.reduceMul, Int.reduceNeg, e1, e2, e3, decide_true, decide_false, ne_eq, not_true_eq_false]
  (first | refine cK_vn (evL (btP 1 0 4) 0 _ (by decide +kernel)) ?_ | refine cE_vn (evL (btP 1 0 4) 0 _ (by decide +kernel)) ?_)
  try simp only [go_sem, reduceIte, Nat.reduceEqDiff, Nat.reduceAdd, Nat.reduceSub, Nat.reduceMul, Nat.reduceLT, Nat.reduceLeDiff, Nat.reducePow, Int.reduceToNat, Int.reduceLT, Int.reduceLE, Int.reduceEq, Int.reduceNe, Int.reduceAdd, Int.reduceSub, Int.reduceMul, Int.reduceNeg, e1, e2, e3, decide_true, decide_false, ne_eq, not_true_eq_false]
  (first | refine cK_vn (between_ok 1 5 5) ?_ | refine cE_vn (between_ok 1 5 5) ?_)
  try simp only [go_sem, reduceIte, Nat.reduceEqDiff, Nat.reduceAdd, Nat.reduceSub, Nat.reduceMul, Nat.reduceLT, Nat.reduceLeDiff, Nat.reducePow, Int.reduceToNat, Int.reduceLT, Int.reduceLE, Int.reduceEq, Int.reduceNe, Int.reduceAdd, Int.reduceSub, Int.reduceMul, Int.reduceNeg, e1, e2, e3, decide_true, decide_false, ne_eq, not_true_eq_false]
  (first | refine cK_vn (evL (btP 1 5 5) 1 _ (by decide +kernel)) ?_ | refine cE_vn (evL (btP 1 5 5) 1 _ (by decide +kernel)) ?_)
  try simp only [go_sem, reduceIte, Nat.reduceEqDiff, Nat.reduceAdd, Nat.reduceSub, Nat.reduceMul, Nat.reduceLT, Nat.reduceLeDiff, Nat.reducePow, Int.reduceToNat, Int.reduceLT, Int.reduceLE, Int.reduceEq, Int.reduceNe, Int.reduceAdd, Int.reduceSub, Int.reduceMul, Int.reduceNeg, e1, e2, e3, decide_true, decide_false, ne_eq, not_true_eq_false]
  (first | refine cK_vn (between_ok 3 0 9) ?_ | refine cE_vn (between_ok 3 0 9) ?_)
  try simp only [go_sem, reduceIte, Nat.reduceEqDiff, Nat.reduceAdd, Nat.reduceSub, Nat.reduceMul, Nat.reduceLT, Nat.reduceLeDiff, Nat.reducePow, Int.reduceToNat, Int.reduceLT, Int.reduceLE, Int.reduceEq, Int.reduceNe, Int.reduceAdd, Int.reduceSub, Int.reduceMul, Int.reduceNeg, e1, e2, e3, decide_true, decide_false, ne_eq, not_true_eq_false]
  (first | refine cK_vn (evL (btP 3 0 9) 2 _ (by decide +kernel)) ?_ | refine cE_vn (evL (btP 3 0 9) 2 _ (by decide +kernel)) ?_)
  try simp only [go_sem, reduceIte, Nat.reduceEqDiff, Nat.reduceAdd, Nat.reduceSub, Nat.reduceMul, Nat.reduceLT, Nat.reduceLeDiff, Nat.reducePow, Int.reduceToNat, Int.reduceLT, Int.reduceLE, Int.reduceEq, Int.reduceNe, Int.reduceAdd, Int.reduceSub, Int.reduceMul, Int.reduceNeg, e1, e2, e3, decide_true, decide_false, ne_eq, not_true_eq_false]
  (first | refine cK_vn (evIn _ _ _) ?_ | refine cE_vn (evIn _ _ _) ?_)
  try simp only [go_sem, reduceIte, Nat.reduceEqDiff, Nat.reduceAdd, Nat.reduceSub, Nat.reduceMul, Nat.reduceLT, Nat.reduceLeDiff, Nat.reducePow, Int.reduceToNat, Int.reduceLT, Int.reduceLE, Int.reduceEq, Int.reduceNe, Int.reduceAdd, Int.reduceSub, Int.reduceMul, Int.reduceNeg, e1, e2, e3, decide_true, decide_false, ne_eq, not_true_eq_false]
  (first | refine cK_vn (evPf _ _ _) ?_ | refine cE_vn (evPf _ _ _) ?_)
  try simp only [go_sem, reduceIte, Nat.reduceEqDiff, Nat.reduceAdd, Nat.reduceSub, Nat.reduceMul, Nat.reduceLT, Nat.reduceLeDiff, Nat.reducePow, Int.reduceToNat, Int.reduceLT, Int.reduceLE, Int.reduceEq, Int.reduceNe, Int.reduceAdd, Int.reduceSub, Int.reduceMul, Int.reduceNeg, e1, e2, e3, decide_true, decide_false, ne_eq, not_true_eq_false]
  (first | refine cK_vn (null_ok 3) ?_ | refine cE_vn (null_ok 3) ?_)
  try simp only [go_sem, reduceIte, Nat.reduceEqDiff, Nat.reduceAdd, Nat.reduceSub, Nat.reduceMul, Nat.reduceLT, Nat.reduceLeDiff, Nat.reducePow, Int.reduceToNat, Int.reduceLT, Int.reduceLE, Int.reduceEq, Int.reduceNe, Int.reduceAdd, Int.reduceSub, Int.reduceMul, Int.reduceNeg, e1, e2, e3, decide_true, decide_false, ne_eq, not_true_eq_false]
  (first | refine cK_vn (evL (nlP 3) 1 _ (by decide +kernel)) ?_ | refine cE_vn (evL (nlP 3) 1 _ (by decide +kernel)) ?_)
  try simp only [go_sem, reduceIte, Nat.reduceEqDiff, Nat.reduceAdd, Nat.reduceSub, Nat.reduceMul, Nat.reduceLT, Nat.reduceLeDiff, Nat.reducePow, Int.reduceToNat, Int.reduceLT, Int.reduceLE, Int.reduceEq, Int.reduceNe, Int.reduceAdd, Int.reduceSub, Int.reduceMul, Int.reduceNeg, e1, e2, e3, decide_true, decide_false, ne_eq, not_true_eq_false]
  (first | refine cK_vn (null_ok 3) ?_ | refine cE_vn (null_ok 3) ?_)
  try simp only [go_sem, reduceIte, Nat.reduceEqDiff, Nat.reduceAdd, Nat.reduceSub, Nat.reduceMul, Nat.reduceLT, Nat.reduceLeDiff, Nat.reducePow, Int.reduceToNat, Int.reduceLT, Int.reduceLE, Int.reduceEq, Int.reduceNe, Int.reduceAdd, Int.reduceSub, Int.reduceMul, Int.reduceNeg, e1, e2, e3, decide_true, decide_false, ne_eq, not_true_eq_false]
  (first | refine cK_vn (not_ok (nlP 3)) ?_ | refine cE_vn (not_ok (nlP 3)) ?_)
  try simp only [go_sem, reduceIte, Nat.reduceEqDiff, Nat.reduceAdd, Nat.reduceSub, Nat.reduceMul, Nat.reduceLT, Nat.reduceLeDiff, Nat.reducePow, Int.reduceToNat, Int.reduceLT, Int.reduceLE, Int.reduceEq, Int.reduceNe, Int.reduceAdd, Int.reduceSub, Int.reduceMul, Int.reduceNeg, e1, e2, e3, decide_true, decide_false, ne_eq, not_true_eq_false]
  (first | refine cK_vn (evL (notP (nlP 3)) 0 _ (by decide +kernel)) ?_ | refine cE_vn (evL (notP (nlP 3)) 0 _ (by decide +kernel)) ?_)
  try simp only [go_sem, reduceIte, Nat.reduceEqDiff, Nat.reduceAdd, Nat.reduceSub, Nat.reduceMul, Nat.reduceLT, Nat.reduceLeDiff, Nat.reducePow, Int.reduceToNat, Int.reduceLT, Int.reduceLE, Int.reduceEq, Int.reduceNe, Int.reduceAdd, Int.reduceSub, Int.reduceMul, Int.reduceNeg, e1, e2, e3, decide_true, decide_false, ne_eq, not_true_eq_false]
  (first | refine cK_vn (null_ok 2) ?_ | refine cE_vn (null_ok 2) ?_)
  try simp only [go_sem, reduceIte, Nat.reduceEqDiff, Nat.reduceAdd, Nat.reduceSub, Nat.reduceMul, Nat.reduceLT, Nat.reduceLeDiff, Nat.reducePow, Int.reduceToNat, Int.reduceLT, Int.reduceLE, Int.reduceEq, Int.reduceNe, Int.reduceAdd, Int.reduceSub, Int.reduceMul, Int.reduceNeg, e1, e2, e3, decide_true, decide_false, ne_eq, not_true_eq_false]
  (first | refine cK_vn (between_ok 1 0 4) ?_ | refine cE_vn (between_ok 1 0 4) ?_)
  try simp only [go_sem, reduceIte, Nat.reduceEqDiff, Nat.reduceAdd, Nat.reduceSub, Nat.reduceMul, Nat.reduceLT, Nat.reduceLeDiff, Nat.reducePow, Int.reduceToNat, Int.reduceLT, Int.reduceLE, Int.reduceEq, Int.reduceNe, Int.reduceAdd, Int.reduceSub, Int.reduceMul, Int.reduceNeg, e1, e2, e3, decide_true, decide_false, ne_eq, not_true_eq_false]
  (first | refine cK_vn (null_ok 2) ?_ | refine cE_vn (null_ok 2) ?_)
  try simp only [go_sem, reduceIte, Nat.reduceEqDiff, Nat.reduceAdd, Nat.reduceSub, Nat.reduceMul, Nat.reduceLT, Nat.reduceLeDiff, Nat.reducePow, Int.reduceToNat, Int.reduceLT, Int.reduceLE, Int.reduceEq, Int.reduceNe, Int.reduceAdd, Int.reduceSub, Int.reduceMul, Int.reduceNeg, e1, e2, e3, decide_true, decide_false, ne_eq, not_true_eq_false]
  (first | refine cK_vn (op_ok 6 _ [nlP 2, btP 1 0 4, nlP 2] _ (by simp [Pr.d_eq])) ?_ | refine cE_vn (op_ok 6 _ [nlP 2, btP 1 0 4, nlP 2] _ (by simp [Pr.d_eq])) ?_)
  try simp only [go_sem, reduceIte, Nat.reduceEqDiff, Nat.reduceAdd, Nat.reduceSub, Nat.reduceMul, Nat.reduceLT, Nat.reduceLeDiff, Nat.reducePow, Int.reduceToNat, Int.reduceLT, Int.reduceLE, Int.reduceEq, Int.reduceNe, Int.reduceAdd, Int.reduceSub, Int.reduceMul, Int.reduceNeg, e1, e2, e3, decide_true, decide_false, ne_eq, not_true_eq_false]
  have N := trivial
  refine new_any fun b5 hb5 => ?_
  have N := And.intro N (box_ne hb5 e1)
  have N := And.intro N (box_ne hb5 e2)
  have N := And.intro N (box_ne hb5 e3)
  generalize hβ_ : Heap.set _ b5 _ = β_
  have e5 := hit_set hβ_
  have e1 := keep_new hβ_ hb5 e1
  have e2 := keep_new hβ_ hb5 e2
  have e3 := keep_new hβ_ hb5 e3
  clear hβ_ hb5
  try simp only [go_sem, reduceIte, Nat.reduceEqDiff, Nat.reduceAdd, Nat.reduceSub, Nat.reduceMul, Nat.reduceLT, Nat.reduceLeDiff, Nat.reducePow, Int.reduceToNat, Int.reduceLT, Int.reduceLE, Int.reduceEq, Int.reduceNe, Int.reduceAdd, Int.reduceSub, Int.reduceMul, Int.reduceNeg, e1, e2, e5, N, decide_true, decide_false, ne_eq, not_true_eq_false]
  (first | refine cK_vn (between_ok 3 0 9) ?_ | refine cE_vn (between_ok 3 0 9) ?_)
  try simp only [go_sem, reduceIte, Nat.reduceEqDiff, Nat.reduceAdd, Nat.reduceSub, Nat.reduceMul, Nat.reduceLT, Nat.reduceLeDiff, Nat.reducePow, Int.reduceToNat, Int.reduceLT, Int.reduceLE, Int.reduceEq, Int.reduceNe, Int.reduceAdd, Int.reduceSub, Int.reduceMul, Int.reduceNeg, e1, e2, e5, N, decide_true, decide_false, ne_eq, not_true_eq_false]
  (first | refine cK_vn (between_ok 1 0 4) ?_ | refine cE_vn (between_ok 1 0 4) ?_)
  try simp only [go_sem, reduceIte, Nat.reduceEqDiff, Nat.reduceAdd, Nat.reduceSub, Nat.reduceMul, Nat.reduceLT, Nat.reduceLeDiff, Nat.reducePow, Int.reduceToNat, Int.reduceLT, Int.reduceLE, Int.reduceEq, Int.reduceNe, Int.reduceAdd, Int.reduceSub, Int.reduceMul, Int.reduceNeg, e1, e2, e5, N, decide_true, decide_false, ne_eq, not_true_eq_false]
  (first | refine cK_vn (op_ok 5 _ [btP 3 0 9, btP 1 0 4] _ (by simp [Pr.d_eq])) ?_ | refine cE_vn (op_ok 5 _ [btP 3 0 9, btP 1 0 4] _ (by simp [Pr.d_eq])) ?_)
  try simp only [go_sem, reduceIte, Nat.reduceEqDiff, Nat.reduceAdd, Nat.reduceSub, Nat.reduceMul, Nat.reduceLT, Nat.reduceLeDiff, Nat.reducePow, Int.reduceToNat, Int.reduceLT, Int.reduceLE, Int.reduceEq, Int.reduceNe, Int.reduceAdd, Int.reduceSub, Int.reduceMul, Int.reduceNeg, e1, e2, e5, N, decide_true, decide_false, ne_eq, not_true_eq_false]
  (first | refine cK_vn (evL (opP 5 [btP 3 0 9, btP 1 0 4]) 0 _ (by decide +kernel)) ?_ | refine cE_vn (evL (opP 5 [btP 3 0 9, btP 1 0 4]) 0 _ (by decide +kernel)) ?_)
  try simp only [go_sem, reduceIte, Nat.reduceEqDiff, Nat.reduceAdd, Nat.reduceSub, Nat.reduceMul, Nat.reduceLT, Nat.reduceLeDiff, Nat.reducePow, Int.reduceToNat, Int.reduceLT, Int.reduceLE, Int.reduceEq, Int.reduceNe, Int.reduceAdd, Int.reduceSub, Int.reduceMul, Int.reduceNeg, e1, e2, e5, N, decide_true, decide_false, ne_eq, not_true_eq_false]
  (first | refine cK_vn (between_ok 3 0 9) ?_ | refine cE_vn (between_ok 3 0 9) ?_)
  try simp only [go_sem, reduceIte, Nat.reduceEqDiff, Nat.reduceAdd, Nat.reduceSub, Nat.reduceMul, Nat.reduceLT, Nat.reduceLeDiff, Nat.reducePow, Int.reduceToNat, Int.reduceLT, Int.reduceLE, Int.reduceEq, Int.reduceNe, Int.reduceAdd, Int.reduceSub, Int.reduceMul, Int.reduceNeg, e1, e2, e5, N, decide_true, decide_false, ne_eq, not_true_eq_false]
  (first | refine cK_vn (between_ok 1 0 4) ?_ | refine cE_vn (between_ok 1 0 4) ?_)
  try simp only [go_sem, reduceIte, Nat.reduceEqDiff, Nat.reduceAdd, Nat.reduceSub, Nat.reduceMul, Nat.reduceLT, Nat.reduceLeDiff, Nat.reducePow, Int.reduceToNat, Int.reduceLT, Int.reduceLE, Int.reduceEq, Int.reduceNe, Int.reduceAdd, Int.reduceSub, Int.reduceMul, Int.reduceNeg, e1, e2, e5, N, decide_true, decide_false, ne_eq, not_true_eq_false]
  (first | refine cK_vn (op_ok 6 _ [btP 3 0 9, btP 1 0 4] _ (by simp [Pr.d_eq])) ?_ | refine cE_vn (op_ok 6 _ [btP 3 0 9, btP 1 0 4] _ (by simp [Pr.d_eq])) ?_)
  try simp only [go_sem, reduceIte, Nat.reduceEqDiff, Nat.reduceAdd, Nat.reduceSub, Nat.reduceMul, Nat.reduceLT, Nat.reduceLeDiff, Nat.reducePow, Int.reduceToNat, Int.reduceLT, Int.reduceLE, Int.reduceEq, Int.reduceNe, Int.reduceAdd, Int.reduceSub, Int.reduceMul, Int.reduceNeg, e1, e2, e5, N, decide_true, decide_false, ne_eq, not_true_eq_false]
  (first | refine cK_vn (evL (opP 6 [btP 3 0 9, btP 1 0 4]) 2 _ (by decide +kernel)) ?_ | refine cE_vn (evL (opP 6 [btP 3 0 9, btP 1 0 4]) 2 _ (by decide +kernel)) ?_)
  try simp only [go_sem, reduceIte, Nat.reduceEqDiff, Nat.reduceAdd, Nat.reduceSub, Nat.reduceMul, Nat.reduceLT, Nat.reduceLeDiff, Nat.reducePow, Int.reduceToNat, Int.reduceLT, Int.reduceLE, Int.reduceEq, Int.reduceNe, Int.reduceAdd, Int.reduceSub, Int.reduceMul, Int.reduceNeg, e1, e2, e5, N, decide_true, decide_false, ne_eq, not_true_eq_false]
  (first | refine cK_vn (op_ok 5 _ [] _ (by simp [Pr.d_eq])) ?_ | refine cE_vn (op_ok 5 _ [] _ (by simp [Pr.d_eq])) ?_)
  try simp only [go_sem, reduceIte, Nat.reduceEqDiff, Nat.reduceAdd, Nat.reduceSub, Nat.reduceMul, Nat.reduceLT, Nat.reduceLeDiff, Nat.reducePow, Int.reduceToNat, Int.reduceLT, Int.reduceLE, Int.reduceEq, Int.reduceNe, Int.reduceAdd, Int.reduceSub, Int.reduceMul, Int.reduceNeg, e1, e2, e5, N, decide_true, decide_false, ne_eq, not_true_eq_false]
  (first | refine cK_vn (evL (opP 5 []) 1 _ (by decide +kernel)) ?_ | refine cE_vn (evL (opP 5 []) 1 _ (by decide +kernel)) ?_)
  try simp only [go_sem, reduceIte, Nat.reduceEqDiff, Nat.reduceAdd, Nat.reduceSub, Nat.reduceMul, Nat.reduceLT, Nat.reduceLeDiff, Nat.reducePow, Int.reduceToNat, Int.reduceLT, Int.reduceLE, Int.reduceEq, Int.reduceNe, Int.reduceAdd, Int.reduceSub, Int.reduceMul, Int.reduceNeg, e1, e2, e5, N, decide_true, decide_false, ne_eq, not_true_eq_false]
  (first | refine cK_vn (op_ok 6 _ [] _ (by simp [Pr.d_eq])) ?_ | refine cE_vn (op_ok 6 _ [] _ (by simp [Pr.d_eq])) ?_)
  try simp only [go_sem, reduceIte, Nat.reduceEqDiff, Nat.reduceAdd, Nat.reduceSub, Nat.reduceMul, Nat.reduceLT, Nat.reduceLeDiff, Nat.reducePow, Int.reduceToNat, Int.reduceLT, Int.reduceLE, Int.reduceEq, Int.reduceNe, Int.reduceAdd, Int.reduceSub, Int.reduceMul, Int.reduceNeg, e1, e2, e5, N, decide_true, decide_false, ne_eq, not_true_eq_false]
  (first | refine cK_vn (evL (opP 6 []) 0 _ (by decide +kernel)) ?_ | refine cE_vn (evL (opP 6 []) 0 _ (by decide +kernel)) ?_)
  try simp only [go_sem, reduceIte, Nat.reduceEqDiff, Nat.reduceAdd, Nat.reduceSub, Nat.reduceMul, Nat.reduceLT, Nat.reduceLeDiff, Nat.reducePow, Int.reduceToNat, Int.reduceLT, Int.reduceLE, Int.reduceEq, Int.reduceNe, Int.reduceAdd, Int.reduceSub, Int.reduceMul, Int.reduceNeg, e1, e2, e5, N, decide_true, decide_false, ne_eq, not_true_eq_false]
  (first | refine cK_vn (op_ok 9 _ [] _ (by simp [Pr.d_eq])) ?_ | refine cE_vn (op_ok 9 _ [] _ (by simp [Pr.d_eq])) ?_)
  try simp only [go_sem, reduceIte, Nat.reduceEqDiff, Nat.reduceAdd, Nat.reduceSub, Nat.reduceMul, Nat.reduceLT, Nat.reduceLeDiff, Nat.reducePow, Int.reduceToNat, Int.reduceLT, Int.reduceLE, Int.reduceEq, Int.reduceNe, Int.reduceAdd, Int.reduceSub, Int.reduceMul, Int.reduceNeg, e1, e2, e5, N, decide_true, decide_false, ne_eq, not_true_eq_false]
  (first | refine cK_vn (evL (opP 9 []) 2 _ (by decide +kernel)) ?_ | refine cE_vn (evL (opP 9 []) 2 _ (by decide +kernel)) ?_)
  try simp only [go_sem, reduceIte, Nat.reduceEqDiff, Nat.reduceAdd, Nat.reduceSub, Nat.reduceMul, Nat.reduceLT, Nat.reduceLeDiff, Nat.reducePow, Int.reduceToNat, Int.reduceLT, Int.reduceLE, Int.reduceEq, Int.reduceNe, Int.reduceAdd, Int.reduceSub, Int.reduceMul, Int.reduceNeg, e1, e2, e5, N, decide_true, decide_false, ne_eq, not_true_eq_false]
  (first | refine cK_vn (between_ok 3 0 9) ?_ | refine cE_vn (between_ok 3 0 9) ?_)
  try simp only [go_sem, reduceIte, Nat.reduceEqDiff, Nat.reduceAdd, Nat.reduceSub, Nat.reduceMul, Nat.reduceLT, Nat.reduceLeDiff, Nat.reducePow, Int.reduceToNat, Int.reduceLT, Int.reduceLE, Int.reduceEq, Int.reduceNe, Int.reduceAdd, Int.reduceSub, Int.reduceMul, Int.reduceNeg, e1, e2, e5, N, decide_true, decide_false, ne_eq, not_true_eq_false]
  (first | refine cK_vn (matchL _) ?_ | refine cE_vn (matchL _) ?_)
  try simp only [go_sem, reduceIte, Nat.reduceEqDiff, Nat.reduceAdd, Nat.reduceSub, Nat.reduceMul, Nat.reduceLT, Nat.reduceLeDiff, Nat.reducePow, Int.reduceToNat, Int.reduceLT, Int.reduceLE, Int.reduceEq, Int.reduceNe, Int.reduceAdd, Int.reduceSub, Int.reduceMul, Int.reduceNeg, e1, e2, e5, N, decide_true, decide_false, ne_eq, not_true_eq_false]
  (first | refine cK_vn (fdsL) ?_ | refine cE_vn (fdsL) ?_)
  try simp only [go_sem, reduceIte, Nat.reduceEqDiff, Nat.reduceAdd, Nat.reduceSub, Nat.reduceMul, Nat.reduceLT, Nat.reduceLeDiff, Nat.reducePow, Int.reduceToNat, Int.reduceLT, Int.reduceLE, Int.reduceEq, Int.reduceNe, Int.reduceAdd, Int.reduceSub, Int.reduceMul, Int.reduceNeg, e1, e2, e5, N, decide_true, decide_false, ne_eq, not_true_eq_false]
  (first | refine cK_vn (intsL _ _) ?_ | refine cE_vn (intsL _ _) ?_)
  try simp only [go_sem, reduceIte, Nat.reduceEqDiff, Nat.reduceAdd, Nat.reduceSub, Nat.reduceMul, Nat.reduceLT, Nat.reduceLeDiff, Nat.reducePow, Int.reduceToNat, Int.reduceLT, Int.reduceLE, Int.reduceEq, Int.reduceNe, Int.reduceAdd, Int.reduceSub, Int.reduceMul, Int.reduceNeg, e1, e2, e5, N, decide_true, decide_false, ne_eq, not_true_eq_false]
  (first | refine cK_vn (sizeL) ?_ | refine cE_vn (sizeL) ?_)
  try simp only [go_sem, reduceIte, Nat.reduceEqDiff, Nat.reduceAdd, Nat.reduceSub, Nat.reduceMul, Nat.reduceLT, Nat.reduceLeDiff, Nat.reducePow, Int.reduceToNat, Int.reduceLT, Int.reduceLE, Int.reduceEq, Int.reduceNe, Int.reduceAdd, Int.reduceSub, Int.reduceMul, Int.reduceNeg, e1, e2, e5, N, decide_true, decide_false, ne_eq, not_true_eq_false]
  (first | refine cK_vn (between_ok 3 0 64) ?_ | refine cE_vn (between_ok 3 0 64) ?_)
  try simp only [go_sem, reduceIte, Nat.reduceEqDiff, Nat.reduceAdd, Nat.reduceSub, Nat.reduceMul, Nat.reduceLT, Nat.reduceLeDiff, Nat.reducePow, Int.reduceToNat, Int.reduceLT, Int.reduceLE, Int.reduceEq, Int.reduceNe, Int.reduceAdd, Int.reduceSub, Int.reduceMul, Int.reduceNeg, e1, e2, e5, N, decide_true, decide_false, ne_eq, not_true_eq_false]
  (first | refine cK_vn (sEncL _ [] (btP 3 0 64) [1, 6, 0, 128, 1] (by decide) (by decide +kernel) hi1 (by decide +kernel)) ?_ | refine cE_vn (sEncL _ [] (btP 3 0 64) [1, 6, 0, 128, 1] (by decide) (by decide +kernel) hi1 (by decide +kernel)) ?_)
  try simp only [go_sem, reduceIte, Nat.reduceEqDiff, Nat.reduceAdd, Nat.reduceSub, Nat.reduceMul, Nat.reduceLT, Nat.reduceLeDiff, Nat.reducePow, Int.reduceToNat, Int.reduceLT, Int.reduceLE, Int.reduceEq, Int.reduceNe, Int.reduceAdd, Int.reduceSub, Int.reduceMul, Int.reduceNeg, e1, e2, e5, N, decide_true, decide_false, ne_eq, not_true_eq_false]
  (first | refine cK_vn (SM _ _ [1, 6, 0, 128, 1] [1, 6, 0, 128, 1] rfl) ?_ | refine cE_vn (SM _ _ [1, 6, 0, 128, 1] [1, 6, 0, 128, 1] rfl) ?_)
  try simp only [go_sem, reduceIte, Nat.reduceEqDiff, Nat.reduceAdd, Nat.reduceSub, Nat.reduceMul, Nat.reduceLT, Nat.reduceLeDiff, Nat.reducePow, Int.reduceToNat, Int.reduceLT, Int.reduceLE, Int.reduceEq, Int.reduceNe, Int.reduceAdd, Int.reduceSub, Int.reduceMul, Int.reduceNeg, e1, e2, e5, N, decide_true, decide_false, ne_eq, not_true_eq_false]
  (first | refine cK_vn (notNu _ _) ?_ | refine cE_vn (notNu _ _) ?_)
  try simp only [go_sem, reduceIte, Nat.reduceEqDiff, Nat.reduceAdd, Nat.reduceSub, Nat.reduceMul, Nat.reduceLT, Nat.reduceLeDiff, Nat.reducePow, Int.reduceToNat, Int.reduceLT, Int.reduceLE, Int.reduceEq, Int.reduceNe, Int.reduceAdd, Int.reduceSub, Int.reduceMul, Int.reduceNeg, e1, e2, e5, N, decide_true, decide_false, ne_eq, not_true_eq_false]
  (first | refine cK_vn (sEncL _ [] (notP Pr.nul) [7, 1, 0] (by decide) (by decide +kernel) hi2 (by decide +kernel)) ?_ | refine cE_vn (sEncL _ [] (notP Pr.nul) [7, 1, 0] (by decide) (by decide +kernel) hi2 (by decide +kernel)) ?_)
  try simp only [go_sem, reduceIte, Nat.reduceEqDiff, Nat.reduceAdd, Nat.reduceSub, Nat.reduceMul, Nat.reduceLT, Nat.reduceLeDiff, Nat.reducePow, Int.reduceToNat, Int.reduceLT, Int.reduceLE, Int.reduceEq, Int.reduceNe, Int.reduceAdd, Int.reduceSub, Int.reduceMul, Int.reduceNeg, e1, e2, e5, N, decide_true, decide_false, ne_eq, not_true_eq_false]
  (first | refine cK_vn (SM _ _ [7, 1, 0] [7, 1, 0] rfl) ?_ | refine cE_vn (SM _ _ [7, 1, 0] [7, 1, 0] rfl) ?_)
  try simp only [go_sem, reduceIte, Nat.reduceEqDiff, Nat.reduceAdd, Nat.reduceSub, Nat.reduceMul, Nat.reduceLT, Nat.reduceLeDiff, Nat.reducePow, Int.reduceToNat, Int.reduceLT, Int.reduceLE, Int.reduceEq, Int.reduceNe, Int.reduceAdd, Int.reduceSub, Int.reduceMul, Int.reduceNeg, e1, e2, e5, N, decide_true, decide_false, ne_eq, not_true_eq_false]
  (first | refine cK_vn (op_ok 7 _ [] _ (by simp [Pr.d_eq])) ?_ | refine cE_vn (op_ok 7 _ [] _ (by simp [Pr.d_eq])) ?_)
  try simp only [go_sem, reduceIte, Nat.reduceEqDiff, Nat.reduceAdd, Nat.reduceSub, Nat.reduceMul, Nat.reduceLT, Nat.reduceLeDiff, Nat.reducePow, Int.reduceToNat, Int.reduceLT, Int.reduceLE, Int.reduceEq, Int.reduceNe, Int.reduceAdd, Int.reduceSub, Int.reduceMul, Int.reduceNeg, e1, e2, e5, N, decide_true, decide_false, ne_eq, not_true_eq_false]
  (first | refine cK_vn (sEncL _ [4] (opP 7 []) [4] (by decide) (by decide +kernel) hi3 (by decide +kernel)) ?_ | refine cE_vn (sEncL _ [4] (opP 7 []) [4] (by decide) (by decide +kernel) hi3 (by decide +kernel)) ?_)
  try simp only [go_sem, reduceIte, Nat.reduceEqDiff, Nat.reduceAdd, Nat.reduceSub, Nat.reduceMul, Nat.reduceLT, Nat.reduceLeDiff, Nat.reducePow, Int.reduceToNat, Int.reduceLT, Int.reduceLE, Int.reduceEq, Int.reduceNe, Int.reduceAdd, Int.reduceSub, Int.reduceMul, Int.reduceNeg, e1, e2, e5, N, decide_true, decide_false, ne_eq, not_true_eq_false]
  (first | refine cK_vn (SM _ _ [4] [4] rfl) ?_ | refine cE_vn (SM _ _ [4] [4] rfl) ?_)
  try simp only [go_sem, reduceIte, Nat.reduceEqDiff, Nat.reduceAdd, Nat.reduceSub, Nat.reduceMul, Nat.reduceLT, Nat.reduceLeDiff, Nat.reducePow, Int.reduceToNat, Int.reduceLT, Int.reduceLE, Int.reduceEq, Int.reduceNe, Int.reduceAdd, Int.reduceSub, Int.reduceMul, Int.reduceNeg, e1, e2, e5, N, decide_true, decide_false, ne_eq, not_true_eq_false]
  (first | refine cK_vn (decL _ [8] 0 5 (show ∀ x ∈ ([8] : List Nat), x < 256 by decide) (by decide) (by decide) (by decide +kernel)) ?_ | refine cE_vn (decL _ [8] 0 5 (show ∀ x ∈ ([8] : List Nat), x < 256 by decide) (by decide) (by decide) (by decide +kernel)) ?_)
  try simp only [go_sem, reduceIte, Nat.reduceEqDiff, Nat.reduceAdd, Nat.reduceSub, Nat.reduceMul, Nat.reduceLT, Nat.reduceLeDiff, Nat.reducePow, Int.reduceToNat, Int.reduceLT, Int.reduceLE, Int.reduceEq, Int.reduceNe, Int.reduceAdd, Int.reduceSub, Int.reduceMul, Int.reduceNeg, e1, e2, e5, N, decide_true, decide_false, ne_eq, not_true_eq_false]
  refine new_any fun d1 hd1 => ?_
  have N := And.intro N (box_ne hd1 e1)
  have N := And.intro N (box_ne hd1 e2)
  have N := And.intro N (box_ne hd1 e5)
  generalize hβ_ : Heap.set _ d1 _ = β_
  have z1 := hit_set hβ_
  have e1 := keep_new hβ_ hd1 e1
  have e2 := keep_new hβ_ hd1 e2
  have e5 := keep_new hβ_ hd1 e5
  clear hβ_ hd1
  try simp only [go_sem, reduceIte, Nat.reduceEqDiff, Nat.reduceAdd, Nat.reduceSub, Nat.reduceMul, Nat.reduceLT, Nat.reduceLeDiff, Nat.reducePow, Int.reduceToNat, Int.reduceLT, Int.reduceLE, Int.reduceEq, Int.reduceNe, Int.reduceAdd, Int.reduceSub, Int.reduceMul, Int.reduceNeg, e1, e2, e5, N, decide_true, decide_false, ne_eq, not_true_eq_false]
  (first | refine cK_vn (decL _ [7, 0] 0 5 (show ∀ x ∈ ([7, 0] : List Nat), x < 256 by decide) (by decide) (by decide) (by decide +kernel)) ?_ | refine cE_vn (decL _ [7, 0] 0 5 (show ∀ x ∈ ([7, 0] : List Nat), x < 256 by decide) (by decide) (by decide) (by decide +kernel)) ?_)
  try simp only [go_sem, reduceIte, Nat.reduceEqDiff, Nat.reduceAdd, Nat.reduceSub, Nat.reduceMul, Nat.reduceLT, Nat.reduceLeDiff, Nat.reducePow, Int.reduceToNat, Int.reduceLT, Int.reduceLE, Int.reduceEq, Int.reduceNe, Int.reduceAdd, Int.reduceSub, Int.reduceMul, Int.reduceNeg, e1, e2, e5, N, decide_true, decide_false, ne_eq, not_true_eq_false]
  refine new_any fun d2 hd2 => ?_
  have N := And.intro N (box_ne hd2 e1)
  have N := And.intro N (box_ne hd2 e2)
  have N := And.intro N (box_ne hd2 e5)
  generalize hβ_ : Heap.set _ d2 _ = β_
  have z2 := hit_set hβ_
  have e1 := keep_new hβ_ hd2 e1
  have e2 := keep_new hβ_ hd2 e2
  have e5 := keep_new hβ_ hd2 e5
  clear hβ_ hd2
  try simp only [go_sem, reduceIte, Nat.reduceEqDiff, Nat.reduceAdd, Nat.reduceSub, Nat.reduceMul, Nat.reduceLT, Nat.reduceLeDiff, Nat.reducePow, Int.reduceToNat, Int.reduceLT, Int.reduceLE, Int.reduceEq, Int.reduceNe, Int.reduceAdd, Int.reduceSub, Int.reduceMul, Int.reduceNeg, e1, e2, e5, N, decide_true, decide_false, ne_eq, not_true_eq_false]
  (first | refine cK_vn (decL _ [5, 17] 0 2 (show ∀ x ∈ ([5, 17] : List Nat), x < 256 by decide) (by decide) (by decide) (by decide +kernel)) ?_ | refine cE_vn (decL _ [5, 17] 0 2 (show ∀ x ∈ ([5, 17] : List Nat), x < 256 by decide) (by decide) (by decide) (by decide +kernel)) ?_)
  try simp only [go_sem, reduceIte, Nat.reduceEqDiff, Nat.reduceAdd, Nat.reduceSub, Nat.reduceMul, Nat.reduceLT, Nat.reduceLeDiff, Nat.reducePow, Int.reduceToNat, Int.reduceLT, Int.reduceLE, Int.reduceEq, Int.reduceNe, Int.reduceAdd, Int.reduceSub, Int.reduceMul, Int.reduceNeg, e1, e2, e5, N, decide_true, decide_false, ne_eq, not_true_eq_false]
  refine new_any fun d3 hd3 => ?_
  have N := And.intro N (box_ne hd3 e1)
  have N := And.intro N (box_ne hd3 e2)
  have N := And.intro N (box_ne hd3 e5)
  generalize hβ_ : Heap.set _ d3 _ = β_
  have z3 := hit_set hβ_
  have e1 := keep_new hβ_ hd3 e1
  have e2 := keep_new hβ_ hd3 e2
  have e5 := keep_new hβ_ hd3 e5
  clear hβ_ hd3
  try simp only [go_sem, reduceIte, Nat.reduceEqDiff, Nat.reduceAdd, Nat.reduceSub, Nat.reduceMul, Nat.reduceLT, Nat.reduceLeDiff, Nat.reducePow, Int.reduceToNat, Int.reduceLT, Int.reduceLE, Int.reduceEq, Int.reduceNe, Int.reduceAdd, Int.reduceSub, Int.reduceMul, Int.reduceNeg, e1, e2, e5, N, decide_true, decide_false, ne_eq, not_true_eq_false]
  (first | refine cK_vn (decL _ [] 0 6 (show ∀ x ∈ ([] : List Nat), x < 256 by decide) (by decide) (by decide) (by decide +kernel)) ?_ | refine cE_vn (decL _ [] 0 6 (show ∀ x ∈ ([] : List Nat), x < 256 by decide) (by decide) (by decide) (by decide +kernel)) ?_)
  try simp only [go_sem, reduceIte, Nat.reduceEqDiff, Nat.reduceAdd, Nat.reduceSub, Nat.reduceMul, Nat.reduceLT, Nat.reduceLeDiff, Nat.reducePow, Int.reduceToNat, Int.reduceLT, Int.reduceLE, Int.reduceEq, Int.reduceNe, Int.reduceAdd, Int.reduceSub, Int.reduceMul, Int.reduceNeg, e1, e2, e5, N, decide_true, decide_false, ne_eq, not_true_eq_false]
  refine new_any fun d4 hd4 => ?_
  have N := And.intro N (box_ne hd4 e1)
  have N := And.intro N (box_ne hd4 e2)
  have N := And.intro N (box_ne hd4 e5)
  generalize hβ_ : Heap.set _ d4 _ = β_
  have z4 := hit_set hβ_
  have e1 := keep_new hβ_ hd4 e1
  have e2 := keep_new hβ_ hd4 e2
  have e5 := keep_new hβ_ hd4 e5
  clear hβ_ hd4
  try simp only [go_sem, reduceIte, Nat.reduceEqDiff, Nat.reduceAdd, Nat.reduceSub, Nat.reduceMul, Nat.reduceLT, Nat.reduceLeDiff, Nat.reducePow, Int.reduceToNat, Int.reduceLT, Int.reduceLE, Int.reduceEq, Int.reduceNe, Int.reduceAdd, Int.reduceSub, Int.reduceMul, Int.reduceNeg, e1, e2, e5, N, decide_true, decide_false, ne_eq, not_true_eq_false]
  (first | refine cK_vn (decL _ [] 1 1 (show ∀ x ∈ ([] : List Nat), x < 256 by decide) (by decide) (by decide) (by decide +kernel)) ?_ | refine cE_vn (decL _ [] 1 1 (show ∀ x ∈ ([] : List Nat), x < 256 by decide) (by decide) (by decide) (by decide +kernel)) ?_)
  try simp only [go_sem, reduceIte, Nat.reduceEqDiff, Nat.reduceAdd, Nat.reduceSub, Nat.reduceMul, Nat.reduceLT, Nat.reduceLeDiff, Nat.reducePow, Int.reduceToNat, Int.reduceLT, Int.reduceLE, Int.reduceEq, Int.reduceNe, Int.reduceAdd, Int.reduceSub, Int.reduceMul, Int.reduceNeg, e1, e2, e5, N, decide_true, decide_false, ne_eq, not_true_eq_false]
  refine new_any fun d5 hd5 => ?_
  have N := And.intro N (box_ne hd5 e1)
  have N := And.intro N (box_ne hd5 e2)
  have N := And.intro N (box_ne hd5 e5)
  generalize hβ_ : Heap.set _ d5 _ = β_
  have z5 := hit_set hβ_
  have e1 := keep_new hβ_ hd5 e1
  have e2 := keep_new hβ_ hd5 e2
  have e5 := keep_new hβ_ hd5 e5
  clear hβ_ hd5
  try simp only [go_sem, reduceIte, Nat.reduceEqDiff, Nat.reduceAdd, Nat.reduceSub, Nat.reduceMul, Nat.reduceLT, Nat.reduceLeDiff, Nat.reducePow, Int.reduceToNat, Int.reduceLT, Int.reduceLE, Int.reduceEq, Int.reduceNe, Int.reduceAdd, Int.reduceSub, Int.reduceMul, Int.reduceNeg, e1, e2, e5, N, decide_true, decide_false, ne_eq, not_true_eq_false]
  refine new_any fun b8 hb8 => ?_
  have N := And.intro N (box_ne hb8 e1)
  have N := And.intro N (box_ne hb8 e2)
  have N := And.intro N (box_ne hb8 e5)
  generalize hβ_ : Heap.set _ b8 _ = β_
  have e8 := hit_set hβ_
  have e1 := keep_new hβ_ hb8 e1
  have e2 := keep_new hβ_ hb8 e2
  have e5 := keep_new hβ_ hb8 e5
  clear hβ_ hb8
  try simp only [go_sem, reduceIte, Nat.reduceEqDiff, Nat.reduceAdd, Nat.reduceSub, Nat.reduceMul, Nat.reduceLT, Nat.reduceLeDiff, Nat.reducePow, Int.reduceToNat, Int.reduceLT, Int.reduceLE, Int.reduceEq, Int.reduceNe, Int.reduceAdd, Int.reduceSub, Int.reduceMul, Int.reduceNeg, e1, e2, e5, e8, N, decide_true, decide_false, ne_eq, not_true_eq_false]
  (first | refine cK_vn (valL _ treeL true (by decide +kernel)) ?_ | refine cE_vn (valL _ treeL true (by decide +kernel)) ?_)
  try simp only [go_sem, reduceIte, Nat.reduceEqDiff, Nat.reduceAdd, Nat.reduceSub, Nat.reduceMul, Nat.reduceLT, Nat.reduceLeDiff, Nat.reducePow, Int.reduceToNat, Int.reduceLT, Int.reduceLE, Int.reduceEq, Int.reduceNe, Int.reduceAdd, Int.reduceSub, Int.reduceMul, Int.reduceNeg, e1, e2, e5, e8, N, decide_true, decide_false, ne_eq, not_true_eq_false]
  (first | refine cK_vn (null_ok 2) ?_ | refine cE_vn (null_ok 2) ?_)
  try simp only [go_sem, reduceIte, Nat.reduceEqDiff, Nat.reduceAdd, Nat.reduceSub, Nat.reduceMul, Nat.reduceLT, Nat.reduceLeDiff, Nat.reducePow, Int.reduceToNat, Int.reduceLT, Int.reduceLE, Int.reduceEq, Int.reduceNe, Int.reduceAdd, Int.reduceSub, Int.reduceMul, Int.reduceNeg, e1, e2, e5, e8, N, decide_true, decide_false, ne_eq, not_true_eq_false]
  (first | refine cK_vn (between_ok 1 4 0) ?_ | refine cE_vn (between_ok 1 4 0) ?_)
  try simp only [go_sem, reduceIte, Nat.reduceEqDiff, Nat.reduceAdd, Nat.reduceSub, Nat.reduceMul, Nat.reduceLT, Nat.reduceLeDiff, Nat.reducePow, Int.reduceToNat, Int.reduceLT, Int.reduceLE, Int.reduceEq, Int.reduceNe, Int.reduceAdd, Int.reduceSub, Int.reduceMul, Int.reduceNeg, e1, e2, e5, e8, N, decide_true, decide_false, ne_eq, not_true_eq_false]
  (first | refine cK_vn (op_ok 6 _ [nlP 2, btP 1 4 0] _ (by simp [Pr.d_eq])) ?_ | refine cE_vn (op_ok 6 _ [nlP 2, btP 1 4 0] _ (by simp [Pr.d_eq])) ?_)
  try simp only [go_sem, reduceIte, Nat.reduceEqDiff, Nat.reduceAdd, Nat.reduceSub, Nat.reduceMul, Nat.reduceLT, Nat.reduceLeDiff, Nat.reducePow, Int.reduceToNat, Int.reduceLT, Int.reduceLE, Int.reduceEq, Int.reduceNe, Int.reduceAdd, Int.reduceSub, Int.reduceMul, Int.reduceNeg, e1, e2, e5, e8, N, decide_true, decide_false, ne_eq, not_true_eq_false]
  (first | refine cK_vn (valL _ (opP 6 [nlP 2, btP 1 4 0]) true (by decide +kernel)) ?_ | refine cE_vn (valL _ (opP 6 [nlP 2, btP 1 4 0]) true (by decide +kernel)) ?_)
  try simp only [go_sem, reduceIte, Nat.reduceEqDiff, Nat.reduceAdd, Nat.reduceSub, Nat.reduceMul, Nat.reduceLT, Nat.reduceLeDiff, Nat.reducePow, Int.reduceToNat, Int.reduceLT, Int.reduceLE, Int.reduceEq, Int.reduceNe, Int.reduceAdd, Int.reduceSub, Int.reduceMul, Int.reduceNeg, e1, e2, e5, e8, N, decide_true, decide_false, ne_eq, not_true_eq_false]
  (first | refine cK_vn (between_ok 2 0 1) ?_ | refine cE_vn (between_ok 2 0 1) ?_)
  try simp only [go_sem, reduceIte, Nat.reduceEqDiff, Nat.reduceAdd, Nat.reduceSub, Nat.reduceMul, Nat.reduceLT, Nat.reduceLeDiff, Nat.reducePow, Int.reduceToNat, Int.reduceLT, Int.reduceLE, Int.reduceEq, Int.reduceNe, Int.reduceAdd, Int.reduceSub, Int.reduceMul, Int.reduceNeg, e1, e2, e5, e8, N, decide_true, decide_false, ne_eq, not_true_eq_false]
  (first | refine cK_vn (valL _ (btP 2 0 1) false (by decide +kernel)) ?_ | refine cE_vn (valL _ (btP 2 0 1) false (by decide +kernel)) ?_)
  try simp only [go_sem, reduceIte, Nat.reduceEqDiff, Nat.reduceAdd, Nat.reduceSub, Nat.reduceMul, Nat.reduceLT, Nat.reduceLeDiff, Nat.reducePow, Int.reduceToNat, Int.reduceLT, Int.reduceLE, Int.reduceEq, Int.reduceNe, Int.reduceAdd, Int.reduceSub, Int.reduceMul, Int.reduceNeg, e1, e2, e5, e8, N, decide_true, decide_false, ne_eq, not_true_eq_false]
  (first | refine cK_vn (null_ok 3) ?_ | refine cE_vn (null_ok 3) ?_)
  try simp only [go_sem, reduceIte, Nat.reduceEqDiff, Nat.reduceAdd, Nat.reduceSub, Nat.reduceMul, Nat.reduceLT, Nat.reduceLeDiff, Nat.reducePow, Int.reduceToNat, Int.reduceLT, Int.reduceLE, Int.reduceEq, Int.reduceNe, Int.reduceAdd, Int.reduceSub, Int.reduceMul, Int.reduceNeg, e1, e2, e5, e8, N, decide_true, decide_false, ne_eq, not_true_eq_false]
  (first | refine cK_vn (valL _ (nlP 3) false (by decide +kernel)) ?_ | refine cE_vn (valL _ (nlP 3) false (by decide +kernel)) ?_)
  try simp only [go_sem, reduceIte, Nat.reduceEqDiff, Nat.reduceAdd, Nat.reduceSub, Nat.reduceMul, Nat.reduceLT, Nat.reduceLeDiff, Nat.reducePow, Int.reduceToNat, Int.reduceLT, Int.reduceLE, Int.reduceEq, Int.reduceNe, Int.reduceAdd, Int.reduceSub, Int.reduceMul, Int.reduceNeg, e1, e2, e5, e8, N, decide_true, decide_false, ne_eq, not_true_eq_false]
  (first | refine cK_vn (valIn _ _ _) ?_ | refine cE_vn (valIn _ _ _) ?_)
  try simp only [go_sem, reduceIte, Nat.reduceEqDiff, Nat.reduceAdd, Nat.reduceSub, Nat.reduceMul, Nat.reduceLT, Nat.reduceLeDiff, Nat.reducePow, Int.reduceToNat, Int.reduceLT, Int.reduceLE, Int.reduceEq, Int.reduceNe, Int.reduceAdd, Int.reduceSub, Int.reduceMul, Int.reduceNeg, e1, e2, e5, e8, N, decide_true, decide_false, ne_eq, not_true_eq_false]
  (first | refine cK_vn (valNu _ _ _) ?_ | refine cE_vn (valNu _ _ _) ?_)
  try simp only [go_sem, reduceIte, Nat.reduceEqDiff, Nat.reduceAdd, Nat.reduceSub, Nat.reduceMul, Nat.reduceLT, Nat.reduceLeDiff, Nat.reducePow, Int.reduceToNat, Int.reduceLT, Int.reduceLE, Int.reduceEq, Int.reduceNe, Int.reduceAdd, Int.reduceSub, Int.reduceMul, Int.reduceNeg, e1, e2, e5, e8, N, decide_true, decide_false, ne_eq, not_true_eq_false]
  exact finK_drop ⟨rfl, rfl, rfl⟩
end Go.Proofs.YtbfkhepfgibonaaGreatS
