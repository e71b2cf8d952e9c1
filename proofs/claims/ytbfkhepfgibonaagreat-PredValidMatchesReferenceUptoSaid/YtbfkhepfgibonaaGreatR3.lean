/-
  Predicates: what fenlandref08.Made makes for a schema is valid: values (fenlandref05.Fit, Made), sets (clean).
-/
import Derived.Test.YtbfkhepfgibonaaGreatR2
import Derived.Test.YtbfkhepfgibonaaGreatQK
import Derived.Test.YtbfkhepfgibonaaGreatE2
set_option linter.unusedVariables false
set_option linter.unusedSimpArgs false
namespace Go.Proofs.YtbfkhepfgibonaaGreatS
open Go Go.Proofs.YtbfkhepfgibonaaGreatV

variable {G : Heap}
attribute [local irreducible] VN VC VX VQ VY VW VTA VT0

/-- A value that is valid for a type. -/
structure VOk (t : Int) (w : Vl) : Prop where
  ok : valOk w t = true
  n : I64' w.n
def isVo (t : Int) (d : D) : Prop := ∃ w : Vl, d = .agg w.cells ∧ VOk t w
theorem VOk.nul {t : Int} (h : isTy t = true) : VOk t Vl.nul := ⟨by rw [valOk_nul]; exact h, I64'_0⟩
theorem and1 (x : Int) (h : I64' x) : bop .and .i64 x 1 = 0 ∨ bop .and .i64 x 1 = 1 := by
  have h1 : (BitVec.ofInt 64 x &&& BitVec.ofInt 64 1).toNat = 0 ∨ (BitVec.ofInt 64 x &&& BitVec.ofInt 64 1).toNat = 1 := by
    have h2 : (BitVec.ofInt 64 (1 : Int)).toNat = 2 ^ 1 - 1 := by decide
    rw [BitVec.toNat_and, h2, Nat.and_two_pow_sub_one_eq_mod]
    omega
  show IntKind.i64.wrap ((BitVec.ofInt 64 x &&& BitVec.ofInt 64 1).toNat : Int) = 0 ∨ IntKind.i64.wrap ((BitVec.ofInt 64 x &&& BitVec.ofInt 64 1).toNat : Int) = 1
  rcases h1 with h1 | h1 <;> rw [h1]
  · exact .inl (wrap_i64 (by omega) (by omega))
  · exact .inr (wrap_i64 (by omega) (by omega))
theorem i32_range (x : Int) : -2147483648 ≤ IntKind.i32.wrap x ∧ IntKind.i32.wrap x ≤ 2147483647 := by
  have h : IntKind.i32.signed = true := rfl
  have hb : IntKind.i32.bits = 32 := rfl
  simp only [IntKind.wrap, h, Bool.true_and, hb]
  have e1 : (2 : Int) ^ 32 = 4294967296 := by decide
  have e2 : (2 : Int) ^ (32 - 1) = 2147483648 := by decide
  simp only [e1, e2, decide_eq_true_eq]
  split <;> omega
set_option maxHeartbeats 2000000 in
theorem Fit5_ok (v : Vl) (t : Int) (ht : isTy t = true) (hi : I64' v.n) : VX P G 142 [.agg v.cells, .int .i64 t] (isVo t) := by
  obtain ⟨vn, vi, vs⟩ := v
  simp only [Vl.cells]
  unfold VX
  refine VC.ofc (fun | 99999999 => [(0, [0, 1, 2, 4, 6, 8, 9, 15, 22, 28])] | _ => []) [.cell 4 51] mixed Tryz.func142 rfl rfl rfl rfl (by decide +kernel) (by simp) ?_
  have h5 : t = 1 ∨ t = 2 ∨ t = 3 ∨ t = 4 ∨ t = 5 := by simp [isTy] at ht; omega
  cases vn
  · rcases h5 with rfl | rfl | rfl | rfl | rfl
    all_goals simp only [go_sem, reduceIte, Nat.reduceEqDiff, Nat.reduceAdd, Nat.reduceSub, Nat.reduceMul, Nat.reduceLT, Nat.reduceLeDiff, Nat.reducePow, Int.reduceToNat, Int.reduceLT, Int.reduceLE, Int.reduceEq, Int.reduceNe, Int.reduceAdd, Int.reduceSub, Int.reduceMul, Int.reduceNeg]
    all_goals intro b0
    all_goals refine new_1 fun b1 h1 h2 => ?_
    all_goals try simp only [go_sem, reduceIte, Nat.reduceEqDiff, Nat.reduceAdd, Nat.reduceSub, Nat.reduceMul, Nat.reduceLT, Nat.reduceLeDiff, Nat.reducePow, Int.reduceToNat, Int.reduceLT, Int.reduceLE, Int.reduceEq, Int.reduceNe, Int.reduceAdd, Int.reduceSub, Int.reduceMul, Int.reduceNeg, h1, h2]
    · obtain a | a := and1 vi hi
      all_goals
        rw [a]
        exact finK_drop ⟨_, ⟨⟨false, _, ByteArray.empty⟩, rfl, ⟨by decide +kernel, by constructor <;> decide⟩⟩, rfl, rfl, rfl⟩
    · obtain ⟨a1, a2⟩ := i32_range vi
      rw [wrap_i64 (by omega) (by omega)]
      exact finK_drop ⟨_, ⟨⟨false, IntKind.i32.wrap vi, ByteArray.empty⟩, rfl, ⟨by simp [valOk, isTy, limT]; omega, ⟨by dsimp only; omega, by dsimp only; omega⟩⟩⟩, rfl, rfl, rfl⟩
    · obtain ⟨a1, a2⟩ := hi
      dsimp only at a1 a2
      exact finK_drop ⟨_, ⟨⟨false, vi, ByteArray.empty⟩, rfl, ⟨by simp [valOk, isTy, limT]; omega, ⟨a1, a2⟩⟩⟩, rfl, rfl, rfl⟩
    · refine ⟨⟨by split <;> omega, by split <;> omega⟩, finK_drop ⟨_, ⟨⟨false, 0, vs.extract 0 ((if (200 : Int) < (vs.size : Nat) then (200 : Int) else (vs.size : Nat)).toNat)⟩, rfl, ⟨?_, I64'_0⟩⟩, rfl, rfl, rfl⟩⟩
      simp [valOk, isTy]
      split <;> omega
    · have a1 := Int.tmod_lt_of_pos vi (show (0 : Int) < 1000001 by omega)
      have a2 : -1000001 < vi.tmod 1000001 := Int.lt_tmod_of_pos vi (show (0 : Int) < 1000001 by omega)
      exact finK_drop ⟨_, ⟨⟨false, vi.tmod 1000001, ByteArray.empty⟩, rfl, ⟨by simp [valOk, isTy, limT]; omega, ⟨by dsimp only; omega, by dsimp only; omega⟩⟩⟩, rfl, rfl, rfl⟩
  · simp only [go_sem, reduceIte, Nat.reduceEqDiff, Nat.reduceAdd, Nat.reduceSub, Nat.reduceMul, Nat.reduceLT, Nat.reduceLeDiff, Nat.reducePow, Int.reduceToNat, Int.reduceLT, Int.reduceLE, Int.reduceEq, Int.reduceNe, Int.reduceAdd, Int.reduceSub, Int.reduceMul, Int.reduceNeg]
    intro b0
    refine new_1 fun b1 h1 h2 => ?_
    try simp only [go_sem, reduceIte, Nat.reduceEqDiff, Nat.reduceAdd, Nat.reduceSub, Nat.reduceMul, Nat.reduceLT, Nat.reduceLeDiff, Nat.reducePow, Int.reduceToNat, Int.reduceLT, Int.reduceLE, Int.reduceEq, Int.reduceNe, Int.reduceAdd, Int.reduceSub, Int.reduceMul, Int.reduceNeg, h1, h2]
    exact finK_drop ⟨_, ⟨Vl.nul, rfl, .nul ht⟩, rfl, rfl, rfl⟩
theorem Made5_ok (v : Vl) (t : Int) (ht : isTy t = true) (hi : I64' v.n) : VX P G 137 [.agg v.cells, .int .i64 t] (isVo t) := by
  have hty := rTy_ok (G := G) t
  have hf := Fit5_ok (G := G) v t ht hi
  simp only [Vl.cells] at hf ⊢
  rw [ht] at hty
  unfold VX
  refine VC.ofc (fun | 99999999 => [(0, [0, 1, 2, 4, 7])] | _ => []) [.cell 4 51] mixed Tryz.func137 rfl rfl rfl rfl (by decide +kernel) (by simp) ?_
  simp only [go_sem, reduceIte, Nat.reduceEqDiff, Nat.reduceAdd, Nat.reduceSub, Nat.reduceMul, Nat.reduceLT, Nat.reduceLeDiff, Nat.reducePow, Int.reduceToNat, Int.reduceLT, Int.reduceLE, Int.reduceEq, Int.reduceNe, Int.reduceAdd, Int.reduceSub, Int.reduceMul, Int.reduceNeg]
  intro b0
  refine new_1 fun b1 h1 h2 => ?_
  try simp only [go_sem, reduceIte, Nat.reduceEqDiff, Nat.reduceAdd, Nat.reduceSub, Nat.reduceMul, Nat.reduceLT, Nat.reduceLeDiff, Nat.reducePow, Int.reduceToNat, Int.reduceLT, Int.reduceLE, Int.reduceEq, Int.reduceNe, Int.reduceAdd, Int.reduceSub, Int.reduceMul, Int.reduceNeg, h1, h2]
  refine cK_vn hty ?_
  try simp only [go_sem, reduceIte, Nat.reduceEqDiff, Nat.reduceAdd, Nat.reduceSub, Nat.reduceMul, Nat.reduceLT, Nat.reduceLeDiff, Nat.reducePow, Int.reduceToNat, Int.reduceLT, Int.reduceLE, Int.reduceEq, Int.reduceNe, Int.reduceAdd, Int.reduceSub, Int.reduceMul, Int.reduceNeg, h1, h2]
  refine cK_vx hf ?_
  rintro _ ⟨w, rfl, hw⟩
  try simp only [go_sem, reduceIte, Nat.reduceEqDiff, Nat.reduceAdd, Nat.reduceSub, Nat.reduceMul, Nat.reduceLT, Nat.reduceLeDiff, Nat.reducePow, Int.reduceToNat, Int.reduceLT, Int.reduceLE, Int.reduceEq, Int.reduceNe, Int.reduceAdd, Int.reduceSub, Int.reduceMul, Int.reduceNeg, h1, h2, Vl.cells]
  exact finK_drop ⟨_, ⟨w, rfl, hw⟩, rfl, rfl, rfl⟩
/-- A set: values of a type, none null, strictly increasing. -/
structure SetOk (t : Int) (l : List Vl) : Prop where
  inc : incF l = true
  ok : ∀ v ∈ l, valOk v t = true ∧ v.null = false ∧ I64' v.n
theorem SetOk.nil {t : Int} : SetOk t [] := ⟨rfl, fun v hv => by cases hv⟩
/-- A value is put where it belongs. -/
theorem SetOk.put {t : Int} {l : List Vl} {k : Nat} {v : Vl} (h : SetOk t l) (hk : k ≤ l.length) (hv : valOk v t = true ∧ v.null = false ∧ I64' v.n) (h1 : ∀ a, 0 < k → l[k - 1]? = some a → cmpV a v < 0) (h2 : ∀ b, l[k]? = some b → ¬ cmpV b v < 0 ∧ b ≠ v) : SetOk t (l.take k ++ v :: l.drop k) := by
  have hl := (incF_iff l).1 h.inc
  refine ⟨(incF_iff _).2 fun i a b ha hb => ?_, fun x hx => ?_⟩
  · by_cases c1 : i + 1 < k
    · rw [List.getElem?_append_left (by rw [List.length_take]; omega), List.getElem?_take, if_pos (by omega)] at ha hb
      exact hl i a b ha hb
    by_cases c2 : i + 1 = k
    · rw [List.getElem?_append_left (by rw [List.length_take]; omega), List.getElem?_take, if_pos (by omega)] at ha
      rw [List.getElem?_append_right (by rw [List.length_take]; omega), List.length_take, show i + 1 - min k l.length = 0 by omega] at hb
      simp only [List.getElem?_cons_zero, Option.some.injEq] at hb
      subst hb
      exact h1 a (by omega) (by rw [← c2]; exact ha)
    by_cases c3 : i = k
    · rw [List.getElem?_append_right (by rw [List.length_take]; omega), List.length_take] at ha hb
      rw [show i - min k l.length = 0 by omega] at ha
      rw [show i + 1 - min k l.length = 0 + 1 by omega, List.getElem?_cons_succ, List.getElem?_drop] at hb
      simp only [List.getElem?_cons_zero, Option.some.injEq] at ha
      subst ha
      obtain ⟨g1, g2⟩ := h2 b (by simpa using hb)
      have hbn := (h.ok b (List.mem_of_getElem? hb)).2.1
      by_cases g3 : cmpV v b < 0
      · exact g3
      · have a1 : cmpV v b ≤ 0 := (cmpV_anti b v).1 (by omega)
        exact absurd (cmpV_eq (by rw [hv.2.1, hbn]) a1 (by omega)) (Ne.symm g2)
    · rw [List.getElem?_append_right (by rw [List.length_take]; omega), List.length_take] at ha hb
      rw [show i - min k l.length = (i - k - 1) + 1 by omega, List.getElem?_cons_succ, List.getElem?_drop] at ha
      rw [show i + 1 - min k l.length = (i - k - 1 + 1) + 1 by omega, List.getElem?_cons_succ, List.getElem?_drop] at hb
      exact hl _ a b ha (by rw [show k + (i - k - 1) + 1 = k + (i - k - 1 + 1) by omega]; exact hb)
  · rcases List.mem_append.1 hx with hx | hx
    · exact h.ok x (List.mem_of_mem_take hx)
    · rcases List.mem_cons.1 hx with rfl | hx
      · exact hv
      · exact h.ok x (List.mem_of_mem_drop hx)
/-- A row of values that lies in a variable's cells, and what it holds. -/
def BoxC (β : Heap) (d : D) (ys : List Vl) : Prop := ∃ (b : Nat) (f : List Vl), d = .so b 0 ys.length f.length ∧ β b = some (vflat f) ∧ ys.length ≤ f.length ∧ f.take ys.length = ys
def OutC (β : Heap) (d : D) (ys : List Vl) : Prop := (d = .sl .full [] ∧ ys = []) ∨ BoxC β d ys
theorem bapVc {P : Program} {t u : TypeId} {by_ : Nat} {β : Heap} {x y : D} {ok : Prop} {new : Bool} {k : D → Heap → Prop} {xs R : List Vl} (hel : elt P t = some (3, by_)) (hz : zel P t = some ([.bool false, .int .i64 0, .str ByteArray.empty], by_)) (h0 : 0 < by_) (hby : by_ ≤ 1024)
    (hok : ok) (hx : (x = .sl .full [] ∧ xs = [] ∧ new = true ∧ 0 < R.length) ∨ ∃ b f off n, x = .so b off n f.length ∧ off = 0 ∧ n = xs.length ∧ β b = some (vflat f) ∧ xs.length ≤ f.length ∧ f.take xs.length = xs)
    (hy : srcOf P β 3 u y = (R.map Vl.d, True)) (hn : xs.length + R.length ≤ 1048576) (hk : ∀ d β', BoxC β' d (xs ++ R) → k d β') : bapK P t u x y ok new β k := by
  have hmul : (xs.length + R.length) * by_ ≤ 140737488355328 := Nat.le_trans (Nat.mul_le_mul hn hby) (by omega)
  have hfl : flat (R.map Vl.d) = vflat R := rfl
  rw [bapK_at hel hz]
  refine ⟨hok, h0, by simp, by rw [hy]; trivial, ?_⟩
  rw [hy]
  rcases hx with ⟨rfl, rfl, rfl, hR⟩ | ⟨b, f, off, n, rfl, rfl, rfl, hb, hf, ht⟩
  · refine ⟨rfl, by simp, by simpa using hmul, fun h => absurd h (by rw [List.length_map]; omega), fun _ cap' hc b' hb' => ?_⟩
    simp only [List.length_nil, List.length_map] at hc ⊢
    refine hk _ _ ⟨b', R ++ List.replicate (cap' - (0 + R.length)) ⟨false, 0, ByteArray.empty⟩, ?_, ?_, by simp, by simp⟩
    · simp only [List.nil_append, List.length_append, List.length_replicate]; congr 1 <;> omega
    · simp only [Heap.set, if_true, hfl]
      rw [zeros_vflat, vflat_append]
      rfl
  · simp only [bapR, hb, List.length_map]
    refine ⟨vflat_obj f, by rw [vflat_length]; omega, hf, hmul, fun hr => ?_, fun hr cap' hc b' hb' => ?_⟩
    · refine hk _ _ ⟨b, f.take xs.length ++ R ++ f.drop (xs.length + R.length), ?_, ?_, by simp; omega, ?_⟩
      · simp only [List.length_append, List.length_take, List.length_drop]; congr 1; omega
      · simp only [Heap.set, if_true, hfl, Nat.zero_add]
        rw [splice_vflat hr]
      · rw [ht, List.take_append_of_le_length (by simp), List.take_of_length_le (by simp)]
    · refine hk _ _ ⟨b', f.take xs.length ++ R ++ List.replicate (cap' - (xs.length + R.length)) ⟨false, 0, ByteArray.empty⟩, ?_, ?_, by simp; omega, ?_⟩
      · simp only [List.length_append, List.length_take, List.length_replicate]; congr 1; omega
      · simp only [Heap.set, if_true, hfl, List.drop_zero]
        rw [zeros_vflat, vflat_take f _ hf, vflat_append, vflat_append]
      · rw [ht, List.take_append_of_le_length (by simp), List.take_of_length_le (by simp)]
def isSet (t : Int) (d : D) : Prop := ∃ m : List Vl, d = .sl .none (m.map Vl.d) ∧ m.length ≤ 16 ∧ SetOk t m
end Go.Proofs.YtbfkhepfgibonaaGreatS
