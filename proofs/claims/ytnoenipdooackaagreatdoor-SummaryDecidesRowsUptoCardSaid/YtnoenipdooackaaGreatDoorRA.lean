import Derived.Test.YtnoenipdooackaaGreatDoorCA
import Derived.Test.YtnoenipdooackaaGreatDoorMB
set_option linter.unusedVariables false
set_option linter.unusedSimpArgs false
namespace Go.Proofs.YtnoenipdooackaaGreatDoorS
open Go Go.Proofs.YtnoenipdooackaaGreatDoorV

variable {G : Heap}

/-- The cells of a row of values. -/
def vflat (f : List Vl) : List D := flat (f.map Vl.d)
theorem vflat_nil : vflat [] = [] := rfl
theorem vflat_cons (v : Vl) (f : List Vl) : vflat (v :: f) = v.cells ++ vflat f := rfl
theorem vflat_append (f g : List Vl) : vflat (f ++ g) = vflat f ++ vflat g := by simp [vflat, flat_append]
theorem vflat_length : ∀ f : List Vl, (vflat f).length = f.length * 3
  | [] => rfl
  | v :: f => by rw [vflat_cons, List.length_append, vflat_length f]; simp [Vl.cells]; omega
theorem vflat_drop (f : List Vl) (k : Nat) (h : k ≤ f.length) : (vflat f).drop (k * 3) = vflat (f.drop k) := by
  have e : vflat f = vflat (f.take k) ++ vflat (f.drop k) := by rw [← vflat_append, List.take_append_drop]
  have l : (vflat (f.take k)).length = k * 3 := by rw [vflat_length, List.length_take]; congr 1; omega
  rw [e, ← l, List.drop_left]
theorem vflat_take (f : List Vl) (k : Nat) (h : k ≤ f.length) : (vflat f).take (k * 3) = vflat (f.take k) := by
  have e : vflat f = vflat (f.take k) ++ vflat (f.drop k) := by rw [← vflat_append, List.take_append_drop]
  have l : (vflat (f.take k)).length = k * 3 := by rw [vflat_length, List.length_take]; congr 1; omega
  rw [e, ← l, List.take_left]
theorem vflat_one {f : List Vl} : ∀ d ∈ vflat f, d.one = true := by
  intro d hd
  simp only [vflat, flat, List.mem_flatMap, List.mem_map] at hd
  obtain ⟨x, ⟨v, _, rfl⟩, hx⟩ := hd
  simp only [Vl.d, Vl.cells, D.cells, List.mem_cons, List.not_mem_nil, or_false] at hx
  rcases hx with rfl | rfl | rfl <;> rfl
theorem vflat_obj (f : List Vl) : isObj (vflat f) = false := by
  cases f with
  | nil => rfl
  | cons v f => rfl
theorem vflat_at {f : List Vl} {k : Nat} {v : Vl} (h : f[k]? = some v) : ((vflat f).drop (k * 3)).take 3 = [.bool v.null, .int .i64 v.n, .str v.s] := by
  have hk := (List.getElem?_eq_some_iff.1 h).1
  rw [vflat_drop f k (by omega)]
  have e : f.drop k = v :: f.drop (k + 1) := by
    rw [List.drop_eq_getElem_cons hk]
    congr 1
    rw [List.getElem?_eq_getElem hk] at h
    exact Option.some.inj h
  rw [e, vflat_cons]
  rfl
theorem els_vflat : ∀ (n : Nat) (f : List Vl), n ≤ f.length → els 3 n (vflat f) = (f.take n).map Vl.d
  | 0, f, _ => by simp [els]
  | n + 1, [], h => by simp at h
  | n + 1, v :: f, h => by
    simp only [els, vflat_cons, List.take_succ_cons, List.map_cons]
    have e1 : ((v.cells ++ vflat f).take 3).map D.er1 = v.cells := by
      rw [List.take_append_of_le_length (by simp [Vl.cells]), show v.cells.take 3 = v.cells from rfl]
      rfl
    have e2 : (v.cells ++ vflat f).drop 3 = vflat f := by
      rw [show (3 : Nat) = v.cells.length from rfl, List.drop_left]
    rw [e1, e2, els_vflat n f (by simpa using h)]
    rfl
theorem zeros_vflat (c : Nat) : zeros [.bool false, .int .i64 0, .str ByteArray.empty] c = vflat (List.replicate c ⟨false, 0, ByteArray.empty⟩) := by
  induction c with
  | zero => rfl
  | succ c ih =>
    rw [List.replicate_succ, vflat_cons, ← ih]
    simp [zeros, List.replicate_succ, Vl.cells]
theorem splice_vflat {f g : List Vl} {k : Nat} (h : k + g.length ≤ f.length) : splice (vflat f) (k * 3) (vflat g) = vflat (f.take k ++ g ++ f.drop (k + g.length)) := by
  unfold splice
  rw [vflat_take f k (by omega), vflat_length, ← Nat.add_mul, vflat_drop f _ h, vflat_append, vflat_append]
theorem vl_er (l : List Vl) : (l.map Vl.d).map D.er = l.map Vl.d := by
  rw [List.map_map]; exact List.map_congr_left fun b _ => rfl
theorem vl_cells (l : List Vl) : ∀ x ∈ l.map Vl.d, x.cells.length = 3 ∧ x.solid = true := fun x hx => by
  obtain ⟨y, _, rfl⟩ := List.mem_map.1 hx; exact ⟨rfl, rfl⟩

/-- A row of values that lies in a variable's cells. -/
def BoxV (β : Heap) (d : D) (n : Nat) : Prop := ∃ (b : Nat) (f : List Vl), d = .so b 0 n f.length ∧ β b = some (vflat f) ∧ n ≤ f.length
def OutV (β : Heap) (d : D) (n : Nat) : Prop := (d = .sl .full [] ∧ n = 0) ∨ BoxV β d n
theorem BoxV.keep {β : Heap} {d : D} {n : Nat} (h : BoxV β d n) {b' : Nat} {cs : List D} (hb : β b' = none) : BoxV (β.set b' cs) d n := by
  obtain ⟨b, f, h1, h2, h3⟩ := h
  refine ⟨b, f, h1, ?_, h3⟩
  have : b ≠ b' := fun e => by rw [e, hb] at h2; cases h2
  simp only [Heap.set, if_neg this]
  exact h2
theorem OutV.keep {β : Heap} {d : D} {n : Nat} (h : OutV β d n) {b' : Nat} {cs : List D} (hb : β b' = none) : OutV (β.set b' cs) d n := h.imp id fun h => h.keep hb

theorem bapV {P : Program} {t u : TypeId} {by_ : Nat} {β : Heap} {x y : D} {ok : Prop} {new : Bool} {k : D → Heap → Prop} {n : Nat} {R : List Vl} (hel : elt P t = some (3, by_)) (hz : zel P t = some ([.bool false, .int .i64 0, .str ByteArray.empty], by_)) (h0 : 0 < by_) (hby : by_ ≤ 1024)
    (hok : ok) (hx : (x = .sl .full [] ∧ n = 0 ∧ new = true ∧ 0 < R.length) ∨ ∃ b f off, x = .so b off n f.length ∧ off = 0 ∧ β b = some (vflat f) ∧ n ≤ f.length)
    (hy : srcOf P β 3 u y = (R.map Vl.d, True)) (hn : n + R.length ≤ 1048576) (hk : ∀ d β', BoxV β' d (n + R.length) → k d β') : bapK P t u x y ok new β k := by
  have hmul : (n + R.length) * by_ ≤ 140737488355328 := Nat.le_trans (Nat.mul_le_mul hn hby) (by omega)
  have hfl : flat (R.map Vl.d) = vflat R := rfl
  rw [bapK_at hel hz]
  refine ⟨hok, h0, by simp, by rw [hy]; trivial, ?_⟩
  rw [hy]
  rcases hx with ⟨rfl, rfl, rfl, hR⟩ | ⟨b, f, off, rfl, rfl, hb, hf⟩
  · refine ⟨rfl, by simpa using hR, by simp, by simpa using hmul, fun cap' hc b' hb' => ?_⟩
    simp only [List.length_nil, List.length_map] at hc ⊢
    refine hk _ _ ⟨b', R ++ List.replicate (cap' - (0 + R.length)) ⟨false, 0, ByteArray.empty⟩, ?_, ?_, by simp⟩
    · congr 1; simp; omega
    · simp only [Heap.set, if_true, hfl]
      rw [zeros_vflat, vflat_append]
      rfl
  · simp only [bapR, hb, List.length_map]
    refine ⟨vflat_obj f, by rw [vflat_length]; omega, hf, hmul, fun hr => ?_, fun hr cap' hc b' hb' => ?_⟩
    · refine hk _ _ ⟨b, f.take n ++ R ++ f.drop (n + R.length), ?_, ?_, by simp; omega⟩
      · congr 1; simp; omega
      · simp only [Heap.set, if_true, hfl, Nat.zero_add]
        rw [splice_vflat hr]
    · refine hk _ _ ⟨b', f.take n ++ R ++ List.replicate (cap' - (n + R.length)) ⟨false, 0, ByteArray.empty⟩, ?_, ?_, by simp; omega⟩
      · congr 1; simp; omega
      · simp only [Heap.set, if_true, hfl, List.drop_zero]
        rw [zeros_vflat, vflat_take f n hf, vflat_append, vflat_append]
end Go.Proofs.YtnoenipdooackaaGreatDoorS
namespace Go.Proofs.YtnoenipdooackaaGreatDoorS
open Go Go.Proofs.YtnoenipdooackaaGreatDoorV

variable {G : Heap}
attribute [local irreducible] VN VC VX VQ VT0

def isIx (n : Nat) (d : D) : Prop := ∃ r : Nat, d = .int .i64 r ∧ r < n
theorem index_ok (i : Int) (n : Nat) (h0 : 0 < n) (hn : n ≤ 1099511627776) : VX P G 49 [.int .i64 i, .int .i64 n] (isIx n) := by
  unfold VX
  refine VC.ofs (fun | 99999999 => [(0, [0, 1, 4])] | _ => []) [4] mixed Tryz.func49 rfl rfl rfl rfl (by decide +kernel) (by simp) ?_
  simp only [go_sem, reduceIte, Nat.reduceEqDiff, Nat.reduceAdd, Nat.reduceSub, Nat.reduceMul, Nat.reduceLT, Nat.reduceLeDiff, Nat.reducePow, Int.reduceToNat, Int.reduceLT, Int.reduceLE, Int.reduceEq, Int.reduceNe, Int.reduceAdd, Int.reduceSub, Int.reduceMul, Int.reduceNeg]
  have e1 : (n : Int) % 18446744073709551616 = n := Int.emod_eq_of_lt (by omega) (by omega)
  have e2 : 0 ≤ i % 18446744073709551616 := Int.emod_nonneg _ (by omega)
  rw [e1]
  generalize i % 18446744073709551616 = x at e2
  have e3 := Int.emod_nonneg x (show (n : Int) ≠ 0 by omega)
  have e4 := Int.emod_lt_of_pos x (show (0 : Int) < n by omega)
  rw [Int.tmod_eq_emod_of_nonneg e2]
  refine ⟨by omega, finK_exact ⟨_, ⟨(x % n).toNat, ?_, by omega⟩, rfl, rfl, rfl⟩⟩
  rw [wrap_i64 (by omega) (by omega), Int.toNat_of_nonneg e3]
def isInt (d : D) : Prop := ∃ t : Int, d = .int .i64 t
theorem refType_ok (fs : List Fd) (nx id : Int) (z : fs.length ≤ 1048576) : VX P G 51 [.agg [.sl .none (fs.map fdD), .int .i64 nx], .int .i64 id] isInt := by
  unfold VX
  refine VC.ofs (fun | 99999999 => [(0, [0, 1, 2, 4, 5, 10, 20])] | _ => []) [4] mixed Tryz.func51 rfl rfl rfl rfl (by decide +kernel) (by simp) ?_
  simp only [go_sem, reduceIte, Nat.reduceEqDiff, Nat.reduceAdd, Nat.reduceSub, Nat.reduceMul, Nat.reduceLT, Nat.reduceLeDiff, Nat.reducePow, Int.reduceToNat, Int.reduceLT, Int.reduceLE, Int.reduceEq, Int.reduceNe, Int.reduceAdd, Int.reduceSub, Int.reduceMul, Int.reduceNeg]
  intro b0
  generalize hβ : Heap.set _ b0 _ = β0
  have e0 : β0 b0 = some [.sl .none (fs.map fdD), .int .i64 nx] := by rw [← hβ]; simp [Heap.set]
  clear hβ
  refine vwq_loop (fun v => ∃ (j : Nat), j ≤ fs.length ∧ v.σ 1 = .int .i64 id ∧ v.σ 2 = .pb b0 0 ∧ v.σ 5 = .int .i64 j ∧ v.β = β0 ∧ v.ω = []) (fun v => fs.length - (ival (v.σ 5)).toNat) ⟨0, by omega, rfl, rfl, rfl, rfl, rfl⟩ ?_
  rintro σ β ω ⟨j, j1, q1, q2, q5, rfl, rfl⟩
  dsimp only at q1 q2 q5 e0
  try simp only [go_sem, reduceIte, Nat.reduceEqDiff, Nat.reduceAdd, Nat.reduceSub, Nat.reduceMul, Nat.reduceLT, Nat.reduceLeDiff, Nat.reducePow, Int.reduceToNat, Int.reduceLT, Int.reduceLE, Int.reduceEq, Int.reduceNe, Int.reduceAdd, Int.reduceSub, Int.reduceMul, Int.reduceNeg, q1, q2, q5, e0]
  refine cd_dec (fun g => ?_) (fun g => ?_)
  · obtain ⟨x, hx, ex⟩ := Fd_at (l := fs) (j := j) (by rw [List.length_map] at g; omega)
    have g1 := eq_true g
    rw [List.length_map] at g
    have wj := wrap_i64 (x := (j : Int) + 1) (by omega) (by omega)
    have c1 : ((0 : Int) ≤ j) = True := eq_true (by omega)
    repeat' (first | simp only [go_sem, reduceIte, Nat.reduceEqDiff, Nat.reduceAdd, Nat.reduceSub, Nat.reduceMul, Nat.reduceLT, Nat.reduceLeDiff, Nat.reducePow, Int.reduceToNat, Int.reduceLT, Int.reduceLE, Int.reduceEq, Int.reduceNe, Int.reduceAdd, Int.reduceSub, Int.reduceMul, Int.reduceNeg, q1, q2, q5, e0, ex, g1, c1, wj] | refine cd_dec (fun _ => ?_) (fun _ => ?_) | fail)
    · exact finK_drop ⟨_, ⟨_, rfl⟩, rfl, rfl, rfl⟩
    · exact ⟨⟨j + 1, by omega, rfl⟩, by omega⟩
  · try simp only [go_sem, reduceIte, Nat.reduceEqDiff, Nat.reduceAdd, Nat.reduceSub, Nat.reduceMul, Nat.reduceLT, Nat.reduceLeDiff, Nat.reducePow, Int.reduceToNat, Int.reduceLT, Int.reduceLE, Int.reduceEq, Int.reduceNe, Int.reduceAdd, Int.reduceSub, Int.reduceMul, Int.reduceNeg, q1, q2, q5, e0]
    exact finK_drop ⟨_, ⟨_, rfl⟩, rfl, rfl, rfl⟩
def isL (n : Nat) (d : D) : Prop := ∃ L : List Fd, d = .sl .none (L.map fdD) ∧ L.length ≤ n
set_option maxHeartbeats 4000000 in
theorem leavesR_ok (fs : List Fd) (nx : Int) (z : fs.length ≤ 64) : VX P G 26 [.agg [.sl .none (fs.map fdD), .int .i64 nx]] (isL 64) := by
  unfold VX
  refine VC.ofs (fun | 99999999 => [(0, [0, 1, 2, 3, 4, 5, 11, 26])] | _ => []) [2] mixed Tryz.func26 rfl rfl rfl rfl (by decide +kernel) (by simp) ?_
  simp only [go_sem, reduceIte, Nat.reduceEqDiff, Nat.reduceAdd, Nat.reduceSub, Nat.reduceMul, Nat.reduceLT, Nat.reduceLeDiff, Nat.reducePow, Int.reduceToNat, Int.reduceLT, Int.reduceLE, Int.reduceEq, Int.reduceNe, Int.reduceAdd, Int.reduceSub, Int.reduceMul, Int.reduceNeg]
  intro b0
  generalize hβ : Heap.set _ b0 _ = β0
  have e0 : β0 b0 = some [.sl .none (fs.map fdD), .int .i64 nx] := by rw [← hβ]; simp [Heap.set]
  clear hβ
  refine vwq_loop (fun v => ∃ (j : Nat) (L : List Fd) (tk : Tk), j ≤ fs.length ∧ L.length ≤ j ∧ TW 4 tk v.ω ∧ v.σ 1 = .pb b0 0 ∧ v.σ 3 = .sl tk (L.map fdD) ∧ v.σ 4 = .int .i64 j ∧ v.β b0 = some [.sl .none (fs.map fdD), .int .i64 nx]) (fun v => fs.length - (ival (v.σ 4)).toNat) ⟨0, [], .full, by omega, by simp, TW.full 4, rfl, rfl, rfl, e0⟩ ?_
  clear e0 β0
  rintro σ β ω ⟨j, L, tk, j1, j2, hw, q1, q3, q4, e0⟩
  dsimp only at hw q1 q3 q4 e0
  have ho := hw.ok
  have hg := hw.gone
  try simp only [go_sem, reduceIte, Nat.reduceEqDiff, Nat.reduceAdd, Nat.reduceSub, Nat.reduceMul, Nat.reduceLT, Nat.reduceLeDiff, Nat.reducePow, Int.reduceToNat, Int.reduceLT, Int.reduceLE, Int.reduceEq, Int.reduceNe, Int.reduceAdd, Int.reduceSub, Int.reduceMul, Int.reduceNeg, q1, q3, q4, e0]
  refine cd_dec (fun g => ?_) (fun g => ?_)
  · obtain ⟨x, hx, ex⟩ := Fd_at (l := fs) (j := j) (by rw [List.length_map] at g; omega)
    have g1 := eq_true g
    rw [List.length_map] at g
    have wj := wrap_i64 (x := (j : Int) + 1) (by omega) (by omega)
    have c1 : ((0 : Int) ≤ j) = True := eq_true (by omega)
    try simp only [go_sem, reduceIte, Nat.reduceEqDiff, Nat.reduceAdd, Nat.reduceSub, Nat.reduceMul, Nat.reduceLT, Nat.reduceLeDiff, Nat.reducePow, Int.reduceToNat, Int.reduceLT, Int.reduceLE, Int.reduceEq, Int.reduceNe, Int.reduceAdd, Int.reduceSub, Int.reduceMul, Int.reduceNeg, q1, q3, q4, e0, ex, g1, c1]
    refine new_any fun b1 hb => ?_
    have m0 := box_ne hb e0
    try simp only [go_sem, reduceIte, Nat.reduceEqDiff, Nat.reduceAdd, Nat.reduceSub, Nat.reduceMul, Nat.reduceLT, Nat.reduceLeDiff, Nat.reducePow, Int.reduceToNat, Int.reduceLT, Int.reduceLE, Int.reduceEq, Int.reduceNe, Int.reduceAdd, Int.reduceSub, Int.reduceMul, Int.reduceNeg, q1, q3, q4, e0, ex, m0]
    refine cK_vx (refType_ok fs nx x.id (by omega)) ?_
    rintro _ ⟨t, rfl⟩
    try simp only [go_sem, reduceIte, Nat.reduceEqDiff, Nat.reduceAdd, Nat.reduceSub, Nat.reduceMul, Nat.reduceLT, Nat.reduceLeDiff, Nat.reducePow, Int.reduceToNat, Int.reduceLT, Int.reduceLE, Int.reduceEq, Int.reduceNe, Int.reduceAdd, Int.reduceSub, Int.reduceMul, Int.reduceNeg, q1, q3, q4, e0, ex, m0]
    refine cK_vn (Type_ok t) ?_
    try simp only [go_sem, reduceIte, Nat.reduceEqDiff, Nat.reduceAdd, Nat.reduceSub, Nat.reduceMul, Nat.reduceLT, Nat.reduceLeDiff, Nat.reducePow, Int.reduceToNat, Int.reduceLT, Int.reduceLE, Int.reduceEq, Int.reduceNe, Int.reduceAdd, Int.reduceSub, Int.reduceMul, Int.reduceNeg, q1, q3, q4, e0, ex, m0]
    refine cd_dec (fun g2 => ?_) (fun g2 => ?_)
    · try simp only [go_sem, reduceIte, Nat.reduceEqDiff, Nat.reduceAdd, Nat.reduceSub, Nat.reduceMul, Nat.reduceLT, Nat.reduceLeDiff, Nat.reducePow, Int.reduceToNat, Int.reduceLT, Int.reduceLE, Int.reduceEq, Int.reduceNe, Int.reduceAdd, Int.reduceSub, Int.reduceMul, Int.reduceNeg, q1, q3, q4, e0, ex, m0, ho, hg, wj]
      refine ⟨Fd_cells4 _, by rw [List.length_map]; omega, fun t' _ => ⟨⟨j + 1, L ++ [⟨x.id, x.name, t, x.parent⟩], .live t' 4, by omega, by simp; omega, TW.live 4 t', by simp [fdD], by simp [Heap.set, m0, e0]⟩, by omega⟩⟩
    · try simp only [go_sem, reduceIte, Nat.reduceEqDiff, Nat.reduceAdd, Nat.reduceSub, Nat.reduceMul, Nat.reduceLT, Nat.reduceLeDiff, Nat.reducePow, Int.reduceToNat, Int.reduceLT, Int.reduceLE, Int.reduceEq, Int.reduceNe, Int.reduceAdd, Int.reduceSub, Int.reduceMul, Int.reduceNeg, q1, q3, q4, e0, ex, m0, wj]
      exact ⟨⟨j + 1, L, tk, by omega, by omega, hw, rfl, by simp [Heap.set, m0, e0]⟩, by omega⟩
  · try simp only [go_sem, reduceIte, Nat.reduceEqDiff, Nat.reduceAdd, Nat.reduceSub, Nat.reduceMul, Nat.reduceLT, Nat.reduceLeDiff, Nat.reducePow, Int.reduceToNat, Int.reduceLT, Int.reduceLE, Int.reduceEq, Int.reduceNe, Int.reduceAdd, Int.reduceSub, Int.reduceMul, Int.reduceNeg, q1, q3, q4, e0]
    exact finK_drop ⟨_, ⟨L, rfl, by omega⟩, rfl, rfl, rfl⟩
end Go.Proofs.YtnoenipdooackaaGreatDoorS
