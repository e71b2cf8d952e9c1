/-
  Predicates: what fenlandref08.Form makes is well-formed.
-/
import Derived.Test.YtbfkhepfgibonaaGreatR1
import Derived.Test.YtbfkhepfgibonaaGreatQ6
import Derived.Test.YtbfkhepfgibonaaGreatV31
set_option linter.unusedVariables false
set_option linter.unusedSimpArgs false
namespace Go.Proofs.YtbfkhepfgibonaaGreatS
open Go Go.Proofs.YtbfkhepfgibonaaGreatV

variable {G : Heap}
attribute [local irreducible] VN VC VX VQ VY VW VTA VT0

def isIx (n : Nat) (d : D) : Prop := ∃ r : Nat, d = .int .i64 r ∧ r < n
theorem index_ok (i : Int) (n : Nat) (h0 : 0 < n) (hn : n ≤ 1099511627776) : VX P G 82 [.int .i64 i, .int .i64 n] (isIx n) := by
  unfold VX
  refine VC.ofs (fun | 99999999 => [(0, [0, 1, 4])] | _ => []) [4] mixed Tryz.func82 rfl rfl rfl rfl (by decide +kernel) (by simp) ?_
  simp only [go_sem, reduceIte, Nat.reduceEqDiff, Nat.reduceAdd, Nat.reduceSub, Nat.reduceMul, Nat.reduceLT, Nat.reduceLeDiff, Nat.reducePow, Int.reduceToNat, Int.reduceLT, Int.reduceLE, Int.reduceEq, Int.reduceNe, Int.reduceAdd, Int.reduceSub, Int.reduceMul, Int.reduceNeg]
  have e1 : (n : Int) % 18446744073709551616 = n := Int.emod_eq_of_lt (by omega) (by omega)
  have e2 : 0 ≤ i % 18446744073709551616 := Int.emod_nonneg _ (by omega)
  rw [e1]
  generalize i % 18446744073709551616 = x at e2
  have e3 := Int.emod_nonneg x (show (n : Int) ≠ 0 by omega)
  have e4 := Int.emod_lt_of_pos x (show (0 : Int) < n by omega)
  rw [Int.tmod_eq_emod_of_nonneg e2]
  refine ⟨by omega, finK_exact ⟨_, ⟨(x % n).toNat, ?_, by omega⟩, rfl, rfl, rfl⟩⟩
  rw [wrap_i64 (by omega) (by omega), Int.toNat_of_nonneg e3]
/-- Well-formed, and at most so deep. -/
structure Gd (n : Nat) (q : Pr) : Prop where
  dep : depN n q ≤ n
  form : ∀ s ∈ subs q, FormP s
  pi : ∀ s ∈ subs q, PI s
theorem Gd.wellF {q : Pr} (h : Gd 8 q) : wellF q = true := by
  unfold YtbfkhepfgibonaaGreatS.wellF
  rw [decide_eq_true h.dep, Bool.true_and, List.all_eq_true]
  exact fun s hs => decide_eq_true (h.form s hs)
theorem subs_leaf {q : Pr} (h : q.kids = []) : subs q = [q] := by rw [subs_eq, h, subsL_nil]
theorem Gd.leaf {n : Nat} {q : Pr} (h : q.kids = []) (hf : FormP q) (hp : PI q) : Gd (n + 1) q := by
  refine ⟨?_, fun s hs => ?_, fun s hs => ?_⟩
  · rw [depN, h]; simp
  all_goals
    rw [subs_leaf h, List.mem_singleton] at hs
    subst hs; assumption
theorem foldl_max_leR {l : List Nat} {a n : Nat} (ha : a ≤ n) (h : ∀ x ∈ l, x ≤ n) : l.foldl max a ≤ n := by
  induction l generalizing a with
  | nil => exact ha
  | cons x l ih => exact ih (by have := h x (by simp); omega) fun y hy => h y (by simp [hy])
theorem Gd.node {n : Nat} {q : Pr} (hk : ∀ k ∈ q.kids, Gd n k) (hf : FormP q) (hp : PI q) : Gd (n + 1) q := by
  refine ⟨?_, fun s hs => ?_, fun s hs => ?_⟩
  · rw [depN]
    have := foldl_max_leR (l := q.kids.map (depN n)) (Nat.zero_le n) fun x hx => by
      obtain ⟨k, hk', rfl⟩ := List.mem_map.1 hx; exact (hk k hk').dep
    omega
  all_goals
    rw [subs_eq] at hs
    rcases List.mem_cons.1 hs with rfl | hs
    · assumption
    · rw [subsL_flat] at hs
      obtain ⟨k, hk', hs'⟩ := List.mem_flatMap.1 hs
      first | exact (hk k hk').form s hs' | exact (hk k hk').pi s hs'
theorem Gd.mono {n : Nat} {q : Pr} (h : Gd n q) : Gd n q := h
theorem I64'_0 : I64' 0 := ⟨by omega, by omega⟩
theorem PI_op {o : Int} {l : List Pr} : PI (.mk o 0 0 0 [] ByteArray.empty l) := ⟨I64'_0, I64'_0, I64'_0, fun v hv => by cases hv⟩
theorem nul_form : FormP (.mk 0 0 0 0 [] ByteArray.empty []) := by decide +kernel
theorem vflat_get2 {f : List Vl} {k : Nat} {v : Vl} (h : f[k]? = some v) : (vflat f).getD (k * 3 + 2) .any = .str v.s := by
  have e := vflat_at h
  have e2 : (((vflat f).drop (k * 3)).take 3)[2]? = some (.str v.s) := by rw [e]; rfl
  rw [List.getElem?_take, if_pos (by omega), List.getElem?_drop] at e2
  rw [List.getD, e2]; rfl
theorem pr_cells (l : List Pr) : ∀ x ∈ l.map Pr.d, x.cells.length = 7 := fun x hx => by
  obtain ⟨y, _, rfl⟩ := List.mem_map.1 hx; rw [y.d_eq]; rfl
theorem bapVn {P : Program} {t u : TypeId} {by_ : Nat} {β : Heap} {y : D} {ok : Prop} {k : D → Heap → Prop} {R : List Vl} (hel : elt P t = some (3, by_)) (hz : zel P t = some ([.bool false, .int .i64 0, .str ByteArray.empty], by_)) (h0 : 0 < by_) (hby : by_ ≤ 1024)
    (hok : ok) (hy : srcOf P β 3 u y = (R.map Vl.d, True)) (hR : 0 < R.length) (hn : R.length ≤ 1048576) (hk : ∀ b f, β b = none → f.take R.length = R → R.length ≤ f.length → k (.so b 0 R.length f.length) (β.set b (vflat f))) : bapK P t u (.sl .full []) y ok true β k := by
  have hmul : (0 + R.length) * by_ ≤ 140737488355328 := Nat.le_trans (Nat.mul_le_mul (by omega) hby) (by omega : 1048576 * 1024 ≤ 140737488355328)
  have hfl : flat (R.map Vl.d) = vflat R := rfl
  rw [bapK_at hel hz]
  refine ⟨hok, h0, by simp, by rw [hy]; trivial, ?_⟩
  rw [hy]
  refine ⟨rfl, by simp, by simpa using hmul, fun h => absurd h (by rw [List.length_map]; omega), fun _ cap' hc b' hb' => ?_⟩
  simp only [List.length_nil, List.length_map, Nat.zero_add] at hc ⊢
  have := hk b' (R ++ List.replicate (cap' - R.length) ⟨false, 0, ByteArray.empty⟩) hb' (by simp) (by simp)
  rw [vflat_append, List.length_append, List.length_replicate, show R.length + (cap' - R.length) = cap' by omega, ← zeros_vflat, ← hfl] at this
  exact this
theorem form1 (id lo hi : Int) : FormP (.mk 1 id lo hi [] ByteArray.empty []) := by constructor <;> simp [usedP, isAt, Pr.op, Pr.id, Pr.lo, Pr.hi, Pr.set, Pr.text, Pr.kids]
theorem form2 (id : Int) (set : List Vl) (h : set.length ≤ 16) (h2 : ∀ v ∈ set, v.s.size ≤ 200) : FormP (.mk 2 id 0 0 set ByteArray.empty []) := by
  constructor <;> simp [usedP, isAt, Pr.op, Pr.id, Pr.lo, Pr.hi, Pr.set, Pr.text, Pr.kids]
  · exact h
  · exact h2
theorem form3 (id : Int) (t : ByteArray) (h : t.size ≤ 200) : FormP (.mk 3 id 0 0 [] t []) := by
  constructor <;> simp [usedP, isAt, Pr.op, Pr.id, Pr.lo, Pr.hi, Pr.set, Pr.text, Pr.kids]
  exact h
theorem form4 (id : Int) : FormP (.mk 4 id 0 0 [] ByteArray.empty []) := by constructor <;> simp [usedP, isAt, Pr.op, Pr.id, Pr.lo, Pr.hi, Pr.set, Pr.text, Pr.kids]
theorem formK (o : Int) (l : List Pr) (ho : 5 ≤ o ∧ o ≤ 7) (h : l.length ≤ 16) (h7 : o = 7 → l.length = 1) : FormP (.mk o 0 0 0 [] ByteArray.empty l) := by
  obtain rfl | rfl | rfl : o = 5 ∨ o = 6 ∨ o = 7 := by omega
  all_goals
    constructor <;> simp [usedP, isAt, Pr.op, Pr.id, Pr.lo, Pr.hi, Pr.set, Pr.text, Pr.kids]
    first | exact h | exact h7 rfl | skip
  all_goals exact h7 rfl
def isGd (n m : Nat) (d : D) : Prop := ∃ q : Pr, d = .agg q.cells ∧ Gd n q ∧ (subs q).length ≤ m
theorem subs_pos (q : Pr) : 1 ≤ (subs q).length := by rw [subs_eq]; simp
theorem leaf_few {q p : Pr} (h : q.kids = []) : (subs q).length ≤ (subs p).length := by rw [subs_leaf h]; exact subs_pos p
theorem isGd_any (n : Nat) (p : Pr) : ∃ d, isGd (n + 1) (subs p).length d := ⟨_, .mk 0 0 0 0 [] ByteArray.empty [], rfl, .leaf rfl nul_form PI_op, leaf_few rfl⟩
theorem node_few {q p : Pr} {j : Nat} (h : (subsL q.kids).length ≤ (subsL (p.kids.take j)).length) : (subs q).length ≤ (subs p).length := by
  have h2 : (subsL (p.kids.take j)).length ≤ (subsL p.kids).length := by
    conv => rhs; rw [← List.take_append_drop j p.kids]
    rw [subsL_flat, subsL_flat, List.flatMap_append, List.length_append]; omega
  rw [subs_eq, subs_eq, List.length_cons, List.length_cons]; omega
theorem few_step {l : List Pr} {qs : List Pr} {j : Nat} {k q : Pr} (h : (subsL qs).length ≤ (subsL (l.take j)).length) (hx : l[j]? = some k) (hq : (subs q).length ≤ (subs k).length) : (subsL (qs ++ [q])).length ≤ (subsL (l.take (j + 1))).length := by
  rw [List.take_add_one, hx, subsL_flat, subsL_flat, List.flatMap_append, List.flatMap_append]
  rw [subsL_flat, subsL_flat] at h
  simp only [Option.toList_some, List.flatMap_cons, List.flatMap_nil, List.append_nil, List.length_append]; omega
end Go.Proofs.YtbfkhepfgibonaaGreatS
