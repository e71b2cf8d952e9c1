/-
  Predicates: what fenlandref08.Made makes is valid (leaves, atom, made, Made).
-/
import Derived.Test.YtbfkhepfgibonaaGreatR4
set_option linter.unusedVariables false
set_option linter.unusedSimpArgs false
namespace Go.Proofs.YtbfkhepfgibonaaGreatS
open Go Go.Proofs.YtbfkhepfgibonaaGreatV

variable {G : Heap}
attribute [local irreducible] VN VC VX VQ VY VW VTA VT0

/-- Valid for a schema, and at most so deep. -/
structure Vp (fs : List Fd) (n : Nat) (q : Pr) : Prop where
  dep : depN n q ≤ n
  form : ∀ s ∈ subs q, FormP s
  fit : ∀ s ∈ subs q, atomOk fs s = true
theorem Vp.valid {fs : List Fd} {q : Pr} (h : Vp fs 8 q) : validF fs q = true := by
  unfold validF wellF
  rw [decide_eq_true h.dep, Bool.true_and, Bool.and_eq_true, List.all_eq_true, List.all_eq_true]
  exact ⟨fun s hs => decide_eq_true (h.form s hs), h.fit⟩
theorem Vp.leaf {fs : List Fd} {n : Nat} {q : Pr} (h : q.kids = []) (hf : FormP q) (hp : atomOk fs q = true) : Vp fs (n + 1) q := by
  refine ⟨?_, fun s hs => ?_, fun s hs => ?_⟩
  · rw [depN, h]; simp
  all_goals
    rw [subs_leaf h, List.mem_singleton] at hs
    subst hs; assumption
theorem Vp.node {fs : List Fd} {n : Nat} {q : Pr} (hk : ∀ k ∈ q.kids, Vp fs n k) (hf : FormP q) (hp : atomOk fs q = true) : Vp fs (n + 1) q := by
  refine ⟨?_, fun s hs => ?_, fun s hs => ?_⟩
  · rw [depN]
    have := foldl_max_leR (l := q.kids.map (depN n)) (Nat.zero_le n) fun x hx => by
      obtain ⟨k, hk', rfl⟩ := List.mem_map.1 hx; exact (hk k hk').dep
    omega
  all_goals
    rw [subs_eq] at hs
    rcases List.mem_cons.1 hs with rfl | hs
    · assumption
    · rw [subsL_flat] at hs
      obtain ⟨k, hk', hs'⟩ := List.mem_flatMap.1 hs
      first | exact (hk k hk').form s hs' | exact (hk k hk').fit s hs'
def isVp (fs : List Fd) (n : Nat) (d : D) : Prop := ∃ q : Pr, d = .agg q.cells ∧ Vp fs n q
theorem fit0 {fs : List Fd} {o a b c : Int} {s : List Vl} {t : ByteArray} {l : List Pr} (h : isAt o = false) : atomOk fs (.mk o a b c s t l) = true := by
  unfold atomOk
  rw [show (Pr.mk o a b c s t l).op = o from rfl, h]; rfl
theorem Vp.nul {fs : List Fd} {n : Nat} : Vp fs (n + 1) (.mk 0 0 0 0 [] ByteArray.empty []) := .leaf rfl nul_form (fit0 rfl)
theorem isVp_any (fs : List Fd) (n : Nat) : ∃ d, isVp fs (n + 1) d := ⟨_, _, rfl, .nul⟩
theorem Fd_cells4 (l : List Fd) : ∀ x ∈ l.map fdD, x.cells.length = 4 := fun x hx => by
  obtain ⟨y, _, rfl⟩ := List.mem_map.1 hx; rfl
/-- A field that has values. -/
def LvOk (fs : List Fd) (f : Fd) : Prop := typR fs f.id = f.type ∧ isTy f.type = true
def isLv (fs : List Fd) (d : D) : Prop := ∃ L : List Fd, d = .sl .none (L.map fdD) ∧ L.length ≤ fs.length ∧ ∀ f ∈ L, LvOk fs f
theorem atom_of {fs : List Fd} {f : Fd} (h : LvOk fs f) {o : Int} {lo hi : Int} {s : List Vl} {t : ByteArray} (hfit : fitsF (.mk o f.id lo hi s t []) f.type = true) : atomOk fs (.mk o f.id lo hi s t []) = true := by
  rw [atomOk_typR, show (Pr.mk o f.id lo hi s t []).id = f.id from rfl, h.1, hfit, Bool.or_true]
theorem valOk_200 {v : Vl} {t : Int} (h : valOk v t = true) : v.s.size ≤ 200 := by
  unfold valOk at h
  rw [Bool.and_eq_true] at h
  obtain ⟨_, h⟩ := h
  split at h
  · have := of_decide_eq_true h; subst this; decide
  split at h
  · exact (of_decide_eq_true h).2
  · rw [(of_decide_eq_true h).1]; decide
set_option maxHeartbeats 4000000 in
theorem leaves_ok (fs : List Fd) (nx : Int) (z : fs.length ≤ 1048576) : VX P G 52 [.agg [.sl .none (fs.map fdD), .int .i64 nx]] (isLv fs) := by
  unfold VX
  refine VC.ofs (fun | 99999999 => [(0, [0, 1, 2, 3, 4, 5, 11, 26])] | _ => []) [2] mixed Tryz.func52 rfl rfl rfl rfl (by decide +kernel) (by simp) ?_
  simp only [go_sem, reduceIte, Nat.reduceEqDiff, Nat.reduceAdd, Nat.reduceSub, Nat.reduceMul, Nat.reduceLT, Nat.reduceLeDiff, Nat.reducePow, Int.reduceToNat, Int.reduceLT, Int.reduceLE, Int.reduceEq, Int.reduceNe, Int.reduceAdd, Int.reduceSub, Int.reduceMul, Int.reduceNeg]
  intro b0
  generalize hβ : Heap.set _ b0 _ = β0
  have e0 : β0 b0 = some [.sl .none (fs.map fdD), .int .i64 nx] := by rw [← hβ]; simp [Heap.set]
  clear hβ
  refine vwq_loop (fun v => ∃ (j : Nat) (L : List Fd) (tk : Tk), j ≤ fs.length ∧ L.length ≤ j ∧ (∀ f ∈ L, LvOk fs f) ∧ TW 4 tk v.ω ∧ v.σ 1 = .pb b0 0 ∧ v.σ 3 = .sl tk (L.map fdD) ∧ v.σ 4 = .int .i64 j ∧ v.β b0 = some [.sl .none (fs.map fdD), .int .i64 nx]) (fun v => fs.length - (ival (v.σ 4)).toNat) ⟨0, [], .full, by omega, by simp, by simp, TW.full 4, rfl, rfl, rfl, e0⟩ ?_
  clear e0 β0
  rintro σ β ω ⟨j, L, tk, j1, j2, hL, hw, q1, q3, q4, e0⟩
  dsimp only at hw q1 q3 q4 e0
  have ho := hw.ok
  have hg := hw.gone
  try simp only [go_sem, reduceIte, Nat.reduceEqDiff, Nat.reduceAdd, Nat.reduceSub, Nat.reduceMul, Nat.reduceLT, Nat.reduceLeDiff, Nat.reducePow, Int.reduceToNat, Int.reduceLT, Int.reduceLE, Int.reduceEq, Int.reduceNe, Int.reduceAdd, Int.reduceSub, Int.reduceMul, Int.reduceNeg, q1, q3, q4, e0]
  refine cd_dec (fun g => ?_) (fun g => ?_)
  · obtain ⟨x, hx, ex⟩ := Fd_at (l := fs) (j := j) (by rw [List.length_map] at g; omega)
    have g1 := eq_true g
    rw [List.length_map] at g
    have wj := wrap_i64 (x := (j : Int) + 1) (by omega) (by omega)
    have c1 : ((0 : Int) ≤ j) = True := eq_true (by omega)
    try simp only [go_sem, reduceIte, Nat.reduceEqDiff, Nat.reduceAdd, Nat.reduceSub, Nat.reduceMul, Nat.reduceLT, Nat.reduceLeDiff, Nat.reducePow, Int.reduceToNat, Int.reduceLT, Int.reduceLE, Int.reduceEq, Int.reduceNe, Int.reduceAdd, Int.reduceSub, Int.reduceMul, Int.reduceNeg, q1, q3, q4, e0, ex, g1, c1]
    refine new_any fun b1 hb => ?_
    have m0 := box_ne hb e0
    try simp only [go_sem, reduceIte, Nat.reduceEqDiff, Nat.reduceAdd, Nat.reduceSub, Nat.reduceMul, Nat.reduceLT, Nat.reduceLeDiff, Nat.reducePow, Int.reduceToNat, Int.reduceLT, Int.reduceLE, Int.reduceEq, Int.reduceNe, Int.reduceAdd, Int.reduceSub, Int.reduceMul, Int.reduceNeg, q1, q3, q4, e0, ex, m0]
    refine cK_vn (rType_ok fs nx x.id) ?_
    obtain ⟨t, ht⟩ : ∃ t, typR fs x.id = t := ⟨_, rfl⟩
    rw [ht]
    try simp only [go_sem, reduceIte, Nat.reduceEqDiff, Nat.reduceAdd, Nat.reduceSub, Nat.reduceMul, Nat.reduceLT, Nat.reduceLeDiff, Nat.reducePow, Int.reduceToNat, Int.reduceLT, Int.reduceLE, Int.reduceEq, Int.reduceNe, Int.reduceAdd, Int.reduceSub, Int.reduceMul, Int.reduceNeg, q1, q3, q4, e0, ex, m0]
    refine cK_vn (rTy_ok t) ?_
    cases g2 : isTy t
    rotate_left
    · try simp only [go_sem, reduceIte, Nat.reduceEqDiff, Nat.reduceAdd, Nat.reduceSub, Nat.reduceMul, Nat.reduceLT, Nat.reduceLeDiff, Nat.reducePow, Int.reduceToNat, Int.reduceLT, Int.reduceLE, Int.reduceEq, Int.reduceNe, Int.reduceAdd, Int.reduceSub, Int.reduceMul, Int.reduceNeg, q1, q3, q4, e0, ex, m0, ho, hg, wj]
      refine ⟨Fd_cells4 _, by rw [List.length_map]; omega, fun t' _ => ⟨⟨j + 1, L ++ [⟨x.id, x.name, t, x.parent⟩], .live t' 4, by omega, by simp; omega, fun y hy => ?_, TW.live 4 t', by simp [fdD], by simp [Heap.set, m0, e0]⟩, by omega⟩⟩
      rcases List.mem_append.1 hy with hy | hy
      · exact hL y hy
      · rw [List.mem_singleton] at hy; subst hy; exact ⟨ht, g2⟩
    · try simp only [go_sem, reduceIte, Nat.reduceEqDiff, Nat.reduceAdd, Nat.reduceSub, Nat.reduceMul, Nat.reduceLT, Nat.reduceLeDiff, Nat.reducePow, Int.reduceToNat, Int.reduceLT, Int.reduceLE, Int.reduceEq, Int.reduceNe, Int.reduceAdd, Int.reduceSub, Int.reduceMul, Int.reduceNeg, q1, q3, q4, e0, ex, m0, wj]
      exact ⟨⟨j + 1, L, tk, by omega, by omega, hL, hw, rfl, by simp [Heap.set, m0, e0]⟩, by omega⟩
  · try simp only [go_sem, reduceIte, Nat.reduceEqDiff, Nat.reduceAdd, Nat.reduceSub, Nat.reduceMul, Nat.reduceLT, Nat.reduceLeDiff, Nat.reducePow, Int.reduceToNat, Int.reduceLT, Int.reduceLE, Int.reduceEq, Int.reduceNe, Int.reduceAdd, Int.reduceSub, Int.reduceMul, Int.reduceNeg, q1, q3, q4, e0]
    exact finK_drop ⟨_, ⟨L, rfl, by omega, hL⟩, rfl, rfl, rfl⟩
set_option maxHeartbeats 4000000 in
theorem atom8_ok (fs : List Fd) (n : Nat) (p : Pr) (f : Fd) (hf : LvOk fs f) (hp : ∀ v ∈ p.set, I64' v.n) : VX P G 83 [.agg p.cells, .agg (fdC' f)] (isVp fs (n + 1)) := by
  have hc := clean_ok (G := G) p.set f.type hf.2 hp
  have hT := hf.2
  simp only [Pr.cells, fdC']
  unfold VX
  refine VC.ofc (fun | 7 => [(0, []), (1, []), (2, []), (3, []), (4, []), (5, []), (6, []), (7, []), (8, []), (9, []), (10, [])] | 99999999 => [(0, [0, 1, 2, 3, 4, 5, 11, 28, 36])] | _ => []) [.cell 4 25] mixed Tryz.func83 rfl rfl rfl rfl (by decide +kernel) (by simp) ?_
  simp only [go_sem, reduceIte, Nat.reduceEqDiff, Nat.reduceAdd, Nat.reduceSub, Nat.reduceMul, Nat.reduceLT, Nat.reduceLeDiff, Nat.reducePow, Int.reduceToNat, Int.reduceLT, Int.reduceLE, Int.reduceEq, Int.reduceNe, Int.reduceAdd, Int.reduceSub, Int.reduceMul, Int.reduceNeg]
  intro b0
  refine new_1 fun b1 h1 h2 => ?_
  refine new_2 fun b2 h3 h4 h5 => ?_
  try simp only [go_sem, reduceIte, Nat.reduceEqDiff, Nat.reduceAdd, Nat.reduceSub, Nat.reduceMul, Nat.reduceLT, Nat.reduceLeDiff, Nat.reducePow, Int.reduceToNat, Int.reduceLT, Int.reduceLE, Int.reduceEq, Int.reduceNe, Int.reduceAdd, Int.reduceSub, Int.reduceMul, Int.reduceNeg, h1, h2, h3, h4, h5]
  refine cK_vx hc ?_
  rintro _ ⟨m, rfl, hm, hset⟩
  have em : (m.map Vl.d).length = m.length := by simp
  try simp only [go_sem, reduceIte, Nat.reduceEqDiff, Nat.reduceAdd, Nat.reduceSub, Nat.reduceMul, Nat.reduceLT, Nat.reduceLeDiff, Nat.reducePow, Int.reduceToNat, Int.reduceLT, Int.reduceLE, Int.reduceEq, Int.reduceNe, Int.reduceAdd, Int.reduceSub, Int.reduceMul, Int.reduceNeg, h1, h2, h3, h4, h5, em]
  refine ⟨fun h => ⟨h, fun h2 => ⟨h, h2⟩⟩, cd_dec (fun _ => ?_) (fun g1 => ?_)⟩
  · try simp only [go_sem, reduceIte, Nat.reduceEqDiff, Nat.reduceAdd, Nat.reduceSub, Nat.reduceMul, Nat.reduceLT, Nat.reduceLeDiff, Nat.reducePow, Int.reduceToNat, Int.reduceLT, Int.reduceLE, Int.reduceEq, Int.reduceNe, Int.reduceAdd, Int.reduceSub, Int.reduceMul, Int.reduceNeg, h1, h2, h3, h4, h5]
    exact finK_drop ⟨_, ⟨.mk 4 f.id 0 0 [] ByteArray.empty [], rfl, .leaf rfl (form4 _) (atom_of hf (by unfold fitsF; rw [hT]; rfl))⟩, rfl, rfl, rfl⟩
  try simp only [go_sem, reduceIte, Nat.reduceEqDiff, Nat.reduceAdd, Nat.reduceSub, Nat.reduceMul, Nat.reduceLT, Nat.reduceLeDiff, Nat.reducePow, Int.reduceToNat, Int.reduceLT, Int.reduceLE, Int.reduceEq, Int.reduceNe, Int.reduceAdd, Int.reduceSub, Int.reduceMul, Int.reduceNeg, h1, h2, h3, h4, h5]
  refine cd_dec (fun g2 => ?_) (fun g2 => ?_)
  · try simp only [go_sem, reduceIte, Nat.reduceEqDiff, Nat.reduceAdd, Nat.reduceSub, Nat.reduceMul, Nat.reduceLT, Nat.reduceLeDiff, Nat.reducePow, Int.reduceToNat, Int.reduceLT, Int.reduceLE, Int.reduceEq, Int.reduceNe, Int.reduceAdd, Int.reduceSub, Int.reduceMul, Int.reduceNeg, h1, h2, h3, h4, h5]
    refine finK_drop ⟨_, ⟨.mk 2 f.id 0 0 m ByteArray.empty [], rfl, .leaf rfl (form2 _ _ hm fun v hv => valOk_200 (hset.ok v hv).1) (atom_of hf ?_)⟩, rfl, rfl, rfl⟩
    have hpos : 0 < m.length := by omega
    have hw : m.any (wrongV f.type) = false := by
      rw [List.any_eq_false]; intro v hv
      obtain ⟨a, b, _⟩ := hset.ok v hv
      simp [wrongV, a, b]
    unfold fitsF
    rw [hT, show (Pr.mk 2 f.id 0 0 m ByteArray.empty []).op = 2 from rfl, show (Pr.mk 2 f.id 0 0 m ByteArray.empty []).set = m from rfl, hset.inc, hw]
    simp [hpos]
  try simp only [go_sem, reduceIte, Nat.reduceEqDiff, Nat.reduceAdd, Nat.reduceSub, Nat.reduceMul, Nat.reduceLT, Nat.reduceLeDiff, Nat.reducePow, Int.reduceToNat, Int.reduceLT, Int.reduceLE, Int.reduceEq, Int.reduceNe, Int.reduceAdd, Int.reduceSub, Int.reduceMul, Int.reduceNeg, h1, h2, h3, h4, h5]
  refine cd_dec (fun g3 => ?_) (fun g3 => ?_)
  · try simp only [go_sem, reduceIte, Nat.reduceEqDiff, Nat.reduceAdd, Nat.reduceSub, Nat.reduceMul, Nat.reduceLT, Nat.reduceLeDiff, Nat.reducePow, Int.reduceToNat, Int.reduceLT, Int.reduceLE, Int.reduceEq, Int.reduceNe, Int.reduceAdd, Int.reduceSub, Int.reduceMul, Int.reduceNeg, h1, h2, h3, h4, h5]
    refine ⟨⟨by split <;> omega, by split <;> omega⟩, finK_drop ⟨_, ⟨.mk 3 f.id 0 0 [] (p.text.extract 0 ((if (200 : Int) < (p.text.size : Nat) then (200 : Int) else (p.text.size : Nat)).toNat)) [], rfl, .leaf rfl (form3 _ _ ?_) (atom_of hf ?_)⟩, rfl, rfl, rfl⟩⟩
    · rw [ByteArray.size_extract]; split <;> omega
    · unfold fitsF
      rw [hT]
      simp [Pr.op, g3]
  try simp only [go_sem, reduceIte, Nat.reduceEqDiff, Nat.reduceAdd, Nat.reduceSub, Nat.reduceMul, Nat.reduceLT, Nat.reduceLeDiff, Nat.reducePow, Int.reduceToNat, Int.reduceLT, Int.reduceLE, Int.reduceEq, Int.reduceNe, Int.reduceAdd, Int.reduceSub, Int.reduceMul, Int.reduceNeg, h1, h2, h3, h4, h5]
  refine finK_drop ⟨_, ⟨.mk 1 f.id p.lo p.hi [] ByteArray.empty [], rfl, .leaf rfl (form1 _ _ _) (atom_of hf ?_)⟩, rfl, rfl, rfl⟩
  unfold fitsF
  rw [hT]
  simp [Pr.op, g3]
set_option maxHeartbeats 8000000 in
theorem made8_step (fs L : List Fd) (zl : L.length ≤ 1048576) (hL : ∀ f ∈ L, LvOk fs f) (p : Pr) (n : Nat) (hn : n ≤ 7) (hp : ∀ v ∈ p.set, I64' v.n) (z3 : p.kids.length ≤ 1048576) (ih : 0 < n → ∀ k ∈ p.kids, VX P G 51 [.sl .none (L.map fdD), .agg k.cells, .int .i64 (n : Int)] (isVp fs n)) :
    VX P G 51 [.sl .none (L.map fdD), .agg p.cells, .int .i64 ((n : Int) + 1)] (isVp fs (n + 1)) := by
  have hx : VX P G 82 [.int .i64 p.op, .int .i64 8] (isIx 8) := index_ok p.op 8 (by omega) (by omega)
  have hlr : ((L.map fdD).length : Int) = L.length := by rw [List.length_map]
  simp only [Pr.cells]
  unfold VX
  refine VC.ofc (fun | 7 => [(0, [6]), (1, []), (2, []), (3, []), (4, []), (5, []), (6, []), (7, []), (8, []), (9, []), (10, [])] | 13 => [(0, []), (1, [10]), (2, []), (3, []), (4, []), (5, []), (6, []), (7, []), (8, []), (9, []), (10, []), (11, []), (12, []), (13, []), (14, [])] | 99999999 => [(0, [0, 1, 2, 4, 6, 7, 8, 9, 10, 32, 35, 59, 67, 89])] | _ => []) [.cell 6 25] mixed Tryz.func51 rfl rfl rfl rfl (by decide +kernel) (by simp) ?_
  simp only [go_sem, reduceIte, Nat.reduceEqDiff, Nat.reduceAdd, Nat.reduceSub, Nat.reduceMul, Nat.reduceLT, Nat.reduceLeDiff, Nat.reducePow, Int.reduceToNat, Int.reduceLT, Int.reduceLE, Int.reduceEq, Int.reduceNe, Int.reduceAdd, Int.reduceSub, Int.reduceMul, Int.reduceNeg]
  intro b0
  refine new_1 fun b1 h1 h2 => ?_
  try simp only [go_sem, reduceIte, Nat.reduceEqDiff, Nat.reduceAdd, Nat.reduceSub, Nat.reduceMul, Nat.reduceLT, Nat.reduceLeDiff, Nat.reducePow, Int.reduceToNat, Int.reduceLT, Int.reduceLE, Int.reduceEq, Int.reduceNe, Int.reduceAdd, Int.reduceSub, Int.reduceMul, Int.reduceNeg, h1, h2]
  refine cK_vx hx ?_
  rintro _ ⟨r, rfl, hr⟩
  try simp only [go_sem, reduceIte, Nat.reduceEqDiff, Nat.reduceAdd, Nat.reduceSub, Nat.reduceMul, Nat.reduceLT, Nat.reduceLeDiff, Nat.reducePow, Int.reduceToNat, Int.reduceLT, Int.reduceLE, Int.reduceEq, Int.reduceNe, Int.reduceAdd, Int.reduceSub, Int.reduceMul, Int.reduceNeg, h1, h2, hlr]
  refine ⟨fun h => ⟨h, fun h2 => ⟨h, h2⟩⟩, fun h => ⟨h, fun h2 => ⟨h, h2⟩⟩, cd_dec (fun g => ?_) (fun g => ?_)⟩
  · try simp only [go_sem, reduceIte, Nat.reduceEqDiff, Nat.reduceAdd, Nat.reduceSub, Nat.reduceMul, Nat.reduceLT, Nat.reduceLeDiff, Nat.reducePow, Int.reduceToNat, Int.reduceLT, Int.reduceLE, Int.reduceEq, Int.reduceNe, Int.reduceAdd, Int.reduceSub, Int.reduceMul, Int.reduceNeg, h1, h2, hlr]
    exact finK_drop ⟨_, ⟨.mk 0 0 0 0 [] ByteArray.empty [], rfl, .nul⟩, rfl, rfl, rfl⟩
  try simp only [go_sem, reduceIte, Nat.reduceEqDiff, Nat.reduceAdd, Nat.reduceSub, Nat.reduceMul, Nat.reduceLT, Nat.reduceLeDiff, Nat.reducePow, Int.reduceToNat, Int.reduceLT, Int.reduceLE, Int.reduceEq, Int.reduceNe, Int.reduceAdd, Int.reduceSub, Int.reduceMul, Int.reduceNeg, h1, h2, hlr]
  refine cd_dec (fun g5 => ?_) (fun g5 => ?_)
  · try simp only [go_sem, reduceIte, Nat.reduceEqDiff, Nat.reduceAdd, Nat.reduceSub, Nat.reduceMul, Nat.reduceLT, Nat.reduceLeDiff, Nat.reducePow, Int.reduceToNat, Int.reduceLT, Int.reduceLE, Int.reduceEq, Int.reduceNe, Int.reduceAdd, Int.reduceSub, Int.reduceMul, Int.reduceNeg, h1, h2, hlr]
    refine new_2 fun b2 h3 h4 h5 => ?_
    try simp only [go_sem, reduceIte, Nat.reduceEqDiff, Nat.reduceAdd, Nat.reduceSub, Nat.reduceMul, Nat.reduceLT, Nat.reduceLeDiff, Nat.reducePow, Int.reduceToNat, Int.reduceLT, Int.reduceLE, Int.reduceEq, Int.reduceNe, Int.reduceAdd, Int.reduceSub, Int.reduceMul, Int.reduceNeg, h1, h2, h3, h4, h5, hlr]
    have zl1 : 0 < L.length := by omega
    refine cE_vx (index_ok p.id L.length zl1 (by omega)) ⟨_, 0, rfl, zl1⟩ ?_
    rintro _ ⟨i, rfl, hi⟩
    obtain ⟨f, hf, ef⟩ := Fd_at (l := L) (j := i) hi
    have c1 : ((0 : Int) ≤ i) = True := eq_true (by omega)
    have c2 : ((i : Int) < L.length) = True := eq_true (by omega)
    have ha : VX P G 83 [.agg [.int .i64 r, .int .i64 p.id, .int .i64 p.lo, .int .i64 p.hi, .sl .none (p.set.map Vl.d), .str p.text, .sl .none (p.kids.map Pr.d)], .agg [.int .i64 f.id, .str f.name, .int .i64 f.type, .int .i64 f.parent]] (isVp fs (n + 1)) := atom8_ok fs n (.mk r p.id p.lo p.hi p.set p.text p.kids) f (hL f (List.mem_of_getElem? hf)) hp
    try simp only [go_sem, reduceIte, Nat.reduceEqDiff, Nat.reduceAdd, Nat.reduceSub, Nat.reduceMul, Nat.reduceLT, Nat.reduceLeDiff, Nat.reducePow, Int.reduceToNat, Int.reduceLT, Int.reduceLE, Int.reduceEq, Int.reduceNe, Int.reduceAdd, Int.reduceSub, Int.reduceMul, Int.reduceNeg, h1, h2, h3, h4, h5, hlr, ef, c1, c2]
    refine cE_vx ha (isVp_any fs n) ?_
    rintro _ ⟨q, rfl, qL⟩
    try simp only [go_sem, reduceIte, Nat.reduceEqDiff, Nat.reduceAdd, Nat.reduceSub, Nat.reduceMul, Nat.reduceLT, Nat.reduceLeDiff, Nat.reducePow, Int.reduceToNat, Int.reduceLT, Int.reduceLE, Int.reduceEq, Int.reduceNe, Int.reduceAdd, Int.reduceSub, Int.reduceMul, Int.reduceNeg, h1, h2, h3, h4, h5, hlr, Pr.cells]
    refine ⟨(show ¬ rdAdd _ _ _ _ _ from by simp [rdAdd, h1, h2, h3, h4, h5]), ?_⟩
    exact finK_drop ⟨_, ⟨q, rfl, qL⟩, rfl, rfl, rfl⟩
  · try simp only [go_sem, reduceIte, Nat.reduceEqDiff, Nat.reduceAdd, Nat.reduceSub, Nat.reduceMul, Nat.reduceLT, Nat.reduceLeDiff, Nat.reducePow, Int.reduceToNat, Int.reduceLT, Int.reduceLE, Int.reduceEq, Int.reduceNe, Int.reduceAdd, Int.reduceSub, Int.reduceMul, Int.reduceNeg, h1, h2, hlr]
    refine new_2 fun b2 h3 h4 h5 => ?_
    try simp only [go_sem, reduceIte, Nat.reduceEqDiff, Nat.reduceAdd, Nat.reduceSub, Nat.reduceMul, Nat.reduceLT, Nat.reduceLeDiff, Nat.reducePow, Int.reduceToNat, Int.reduceLT, Int.reduceLE, Int.reduceEq, Int.reduceNe, Int.reduceAdd, Int.reduceSub, Int.reduceMul, Int.reduceNeg, h1, h2, h3, h4, h5, hlr]
    generalize hβ : Heap.set _ b2 _ = β0
    have e0 : β0 b0 = some [.int .i64 p.op, .int .i64 p.id, .int .i64 p.lo, .int .i64 p.hi, .sl .none (p.set.map Vl.d), .str p.text, .sl .none (p.kids.map Pr.d)] := by rw [← hβ]; simp [Heap.set, h1, h2, h3, h4, h5]
    have e1 : β0 b1 = some [.int .i64 0, .int .i64 0, .int .i64 0, .int .i64 0, .sl .full [], .str ByteArray.empty, .sl .full []] := by rw [← hβ]; simp [Heap.set, h1, h2, h3, h4, h5]
    have e2 : β0 b2 = some [.int .i64 r, .int .i64 0, .int .i64 0, .int .i64 0, .sl .full [], .str ByteArray.empty, .sl .full []] := by rw [← hβ]; simp [Heap.set]
    clear hβ
    have hn0 : 0 < n := by omega
    have hany : ∃ d, isVp fs n d := by
      obtain ⟨m, rfl⟩ : ∃ m, n = m + 1 := ⟨n - 1, by omega⟩
      exact isVp_any fs m
    have hnode1 : Vp fs (n + 1) (.mk r 0 0 0 [] ByteArray.empty [.mk 0 0 0 0 [] ByteArray.empty []]) := by
      obtain ⟨m, rfl⟩ : ∃ m, n = m + 1 := ⟨n - 1, by omega⟩
      exact .node (fun k hk => by simp only [Pr.kids, List.mem_singleton] at hk; subst hk; exact .nul) (formK r _ (by omega) (by simp) fun _ => rfl) (fit0 (by simp [isAt]; omega))
    have wd : IntKind.i64.wrap ((n : Int) + 1 - 1) = n := by rw [wrap_i64 (by omega) (by omega)]; omega
    refine vwq_loop (fun v => ∃ (j : Nat) (ks : List Pr) (tk : Tk), j ≤ p.kids.length ∧ j ≤ 16 ∧ ks.length = j ∧ (r = 7 → j ≤ 1) ∧ (∀ k ∈ ks, Vp fs n k) ∧ TW 7 tk v.ω ∧ v.σ 0 = .sl .none (L.map fdD) ∧ v.σ 2 = .int .i64 ((n : Int) + 1) ∧ v.σ 4 = .pb b0 0 ∧ v.σ 6 = .pb b1 0 ∧ v.σ 7 = .int .i64 r ∧ v.σ 9 = .pb b2 0 ∧ v.σ 10 = .int .i64 j ∧
      v.β b0 = some [.int .i64 p.op, .int .i64 p.id, .int .i64 p.lo, .int .i64 p.hi, .sl .none (p.set.map Vl.d), .str p.text, .sl .none (p.kids.map Pr.d)] ∧ v.β b1 = some [.int .i64 0, .int .i64 0, .int .i64 0, .int .i64 0, .sl .full [], .str ByteArray.empty, .sl .full []] ∧ v.β b2 = some [.int .i64 r, .int .i64 0, .int .i64 0, .int .i64 0, .sl .full [], .str ByteArray.empty, .sl tk (ks.map Pr.d)]) (fun v => p.kids.length - (ival (v.σ 10)).toNat) ⟨0, [], .full, by omega, by omega, rfl, by omega, by simp, TW.full 7, rfl, rfl, rfl, rfl, rfl, rfl, rfl, e0, e1, e2⟩ ?_
    clear e0 e1 e2 β0
    rintro σ β ω ⟨j, ks, tk, j1, j2, j3, j7, hks, hw, q0, q2, q4, q6, q7, q9, q10, e0, e1, e2⟩
    dsimp only at hw q0 q2 q4 q6 q7 q9 q10 e0 e1 e2
    have ho := hw.ok
    have hg := hw.gone
    try simp only [go_sem, reduceIte, Nat.reduceEqDiff, Nat.reduceAdd, Nat.reduceSub, Nat.reduceMul, Nat.reduceLT, Nat.reduceLeDiff, Nat.reducePow, Int.reduceToNat, Int.reduceLT, Int.reduceLE, Int.reduceEq, Int.reduceNe, Int.reduceAdd, Int.reduceSub, Int.reduceMul, Int.reduceNeg, q0, q2, q4, q6, q7, q9, q10, e0, e1, e2]
    refine cd_dec (fun gg => ?_) (fun gg => ?_)
    · obtain ⟨gg, gg2⟩ := gg
      obtain ⟨k, hk, ek⟩ := Pr_at (l := p.kids) (j := j) gg
      have g1 := eq_true gg
      rw [List.length_map] at gg
      have wj := wrap_i64 (x := (j : Int) + 1) (by omega) (by omega)
      have c1 : ((0 : Int) ≤ j) = True := eq_true (by omega)
      have hk' := ih hn0 k (List.mem_of_getElem? hk)
      simp only [Pr.cells] at hk'
      try simp only [go_sem, reduceIte, Nat.reduceEqDiff, Nat.reduceAdd, Nat.reduceSub, Nat.reduceMul, Nat.reduceLT, Nat.reduceLeDiff, Nat.reducePow, Int.reduceToNat, Int.reduceLT, Int.reduceLE, Int.reduceEq, Int.reduceNe, Int.reduceAdd, Int.reduceSub, Int.reduceMul, Int.reduceNeg, q0, q2, q4, q6, q7, q9, q10, e0, e1, e2, ek, g1, c1]
      refine cd_dec (fun g7 => ?_) (fun g7 => ?_)
      · try simp only [go_sem, reduceIte, Nat.reduceEqDiff, Nat.reduceAdd, Nat.reduceSub, Nat.reduceMul, Nat.reduceLT, Nat.reduceLeDiff, Nat.reducePow, Int.reduceToNat, Int.reduceLT, Int.reduceLE, Int.reduceEq, Int.reduceNe, Int.reduceAdd, Int.reduceSub, Int.reduceMul, Int.reduceNeg, q0, q2, q4, q6, q7, q9, q10, e0, e1, e2]
        refine cd_dec (fun g8 => ?_) (fun g8 => ?_)
        · try simp only [go_sem, reduceIte, Nat.reduceEqDiff, Nat.reduceAdd, Nat.reduceSub, Nat.reduceMul, Nat.reduceLT, Nat.reduceLeDiff, Nat.reducePow, Int.reduceToNat, Int.reduceLT, Int.reduceLE, Int.reduceEq, Int.reduceNe, Int.reduceAdd, Int.reduceSub, Int.reduceMul, Int.reduceNeg, q0, q2, q4, q6, q7, q9, q10, e0, e1, e2, h3, h4, h5]
          refine finK_drop ⟨_, ?_, rfl, rfl, rfl⟩
          refine ⟨.mk r 0 0 0 [] ByteArray.empty [.mk 0 0 0 0 [] ByteArray.empty []], ?_, hnode1⟩
          simp only [D.er, D.er1, Pr.cells, Pr.op, Pr.id, Pr.lo, Pr.hi, Pr.set, Pr.text, Pr.kids, List.map_cons, List.map_nil, Pr.d_eq]
        · try simp only [go_sem, reduceIte, Nat.reduceEqDiff, Nat.reduceAdd, Nat.reduceSub, Nat.reduceMul, Nat.reduceLT, Nat.reduceLeDiff, Nat.reducePow, Int.reduceToNat, Int.reduceLT, Int.reduceLE, Int.reduceEq, Int.reduceNe, Int.reduceAdd, Int.reduceSub, Int.reduceMul, Int.reduceNeg, q0, q2, q4, q6, q7, q9, q10, e0, e1, e2]
          rw [List.length_map] at g8
          exact finK_drop ⟨_, ⟨.mk r 0 0 0 [] ByteArray.empty ks, rfl, .node hks (formK r ks (by omega) (by omega) (by omega)) (fit0 (by simp [isAt]; omega))⟩, rfl, rfl, rfl⟩
      · try simp only [go_sem, reduceIte, Nat.reduceEqDiff, Nat.reduceAdd, Nat.reduceSub, Nat.reduceMul, Nat.reduceLT, Nat.reduceLeDiff, Nat.reducePow, Int.reduceToNat, Int.reduceLT, Int.reduceLE, Int.reduceEq, Int.reduceNe, Int.reduceAdd, Int.reduceSub, Int.reduceMul, Int.reduceNeg, q0, q2, q4, q6, q7, q9, q10, e0, e1, e2, ek, g1, c1, wd]
        refine cE_vx hk' hany ?_
        rintro _ ⟨q, rfl, qL⟩
        try simp only [go_sem, reduceIte, Nat.reduceEqDiff, Nat.reduceAdd, Nat.reduceSub, Nat.reduceMul, Nat.reduceLT, Nat.reduceLeDiff, Nat.reducePow, Int.reduceToNat, Int.reduceLT, Int.reduceLE, Int.reduceEq, Int.reduceNe, Int.reduceAdd, Int.reduceSub, Int.reduceMul, Int.reduceNeg, q0, q2, q4, q6, q7, q9, q10, e0, e1, e2, ek, g1, c1, wd, ho, hg, Pr.cells]
        refine ⟨fun x hx => by obtain ⟨y, _, rfl⟩ := List.mem_map.1 hx; rw [y.d_eq]; rfl, by rw [List.length_map]; omega, fun t' _ => ⟨by simp [rdAdd], ⟨j + 1, ks ++ [q], .live t' 7, ?_⟩, by omega⟩⟩
        refine ⟨by omega, by omega, by simp; omega, by omega, fun k hk => ?_, TW.live 7 t', by rw [wj]; rfl, by simp [h3, h4, h5, e0], by simp [h3, h4, h5, e1], by simp [Pr.cells, Pr.d_eq]⟩
        rcases List.mem_append.1 hk with hk | hk
        · exact hks k hk
        · simp at hk; subst hk; exact qL
    · try simp only [go_sem, reduceIte, Nat.reduceEqDiff, Nat.reduceAdd, Nat.reduceSub, Nat.reduceMul, Nat.reduceLT, Nat.reduceLeDiff, Nat.reducePow, Int.reduceToNat, Int.reduceLT, Int.reduceLE, Int.reduceEq, Int.reduceNe, Int.reduceAdd, Int.reduceSub, Int.reduceMul, Int.reduceNeg, q0, q2, q4, q6, q7, q9, q10, e0, e1, e2]
      refine cd_dec (fun g8 => ?_) (fun g8 => ?_)
      · try simp only [go_sem, reduceIte, Nat.reduceEqDiff, Nat.reduceAdd, Nat.reduceSub, Nat.reduceMul, Nat.reduceLT, Nat.reduceLeDiff, Nat.reducePow, Int.reduceToNat, Int.reduceLT, Int.reduceLE, Int.reduceEq, Int.reduceNe, Int.reduceAdd, Int.reduceSub, Int.reduceMul, Int.reduceNeg, q0, q2, q4, q6, q7, q9, q10, e0, e1, e2, h3, h4, h5]
        refine finK_drop ⟨_, ?_, rfl, rfl, rfl⟩
        refine ⟨.mk r 0 0 0 [] ByteArray.empty [.mk 0 0 0 0 [] ByteArray.empty []], ?_, hnode1⟩
        simp only [D.er, D.er1, Pr.cells, Pr.op, Pr.id, Pr.lo, Pr.hi, Pr.set, Pr.text, Pr.kids, List.map_cons, List.map_nil, Pr.d_eq]
      · try simp only [go_sem, reduceIte, Nat.reduceEqDiff, Nat.reduceAdd, Nat.reduceSub, Nat.reduceMul, Nat.reduceLT, Nat.reduceLeDiff, Nat.reducePow, Int.reduceToNat, Int.reduceLT, Int.reduceLE, Int.reduceEq, Int.reduceNe, Int.reduceAdd, Int.reduceSub, Int.reduceMul, Int.reduceNeg, q0, q2, q4, q6, q7, q9, q10, e0, e1, e2]
        rw [List.length_map] at g8
        exact finK_drop ⟨_, ⟨.mk r 0 0 0 [] ByteArray.empty ks, rfl, .node hks (formK r ks (by omega) (by omega) (by omega)) (fit0 (by simp [isAt]; omega))⟩, rfl, rfl, rfl⟩
theorem made8_ok (fs L : List Fd) (zl : L.length ≤ 1048576) (hL : ∀ f ∈ L, LvOk fs f) : ∀ (n : Nat), n ≤ 7 → ∀ (p : Pr), p.Lim → p.I → VX P G 51 [.sl .none (L.map fdD), .agg p.cells, .int .i64 ((n : Int) + 1)] (isVp fs (n + 1))
  | 0, hn, p, hl, hi => by
    obtain ⟨_, z3, hk⟩ := hl
    exact made8_step fs L zl hL p 0 hn hi.parts.2.2.2.2.1 z3 fun h => absurd h (by omega)
  | n + 1, hn, p, hl, hi => by
    obtain ⟨_, z3, hk⟩ := hl
    exact made8_step fs L zl hL p (n + 1) hn hi.parts.2.2.2.2.1 z3 fun _ k hk' => made8_ok fs L zl hL n (by omega) k (hk k hk') (hi.parts.2.2.2.2.2 k hk')
theorem Made8_ok (fs : List Fd) (nx : Int) (z : fs.length ≤ 1048576) (p : Pr) (hl : p.Lim) (hi : p.I) : VX P G 19 [.agg [.sl .none (fs.map fdD), .int .i64 nx], .agg p.cells] (isVp fs 8) := by
  have hlv := leaves_ok (G := G) fs nx z
  have hm : ∀ L : List Fd, L.length ≤ 1048576 → (∀ f ∈ L, LvOk fs f) → VX P G 51 [.sl .none (L.map fdD), .agg p.cells, .int .i64 8] (isVp fs 8) := fun L h h2 => made8_ok fs L h h2 7 (by omega) p hl hi
  simp only [Pr.cells] at hm ⊢
  unfold VX
  refine VC.ofc (fun | 1 => [(0, []), (2, [1]), (1, []), (3, []), (4, [])] | 99999999 => [(0, [0, 1, 2, 3, 4])] | _ => []) [.cell 4 25] mixed Tryz.func19 rfl rfl rfl rfl (by decide +kernel) (by simp) ?_
  simp only [go_sem, reduceIte, Nat.reduceEqDiff, Nat.reduceAdd, Nat.reduceSub, Nat.reduceMul, Nat.reduceLT, Nat.reduceLeDiff, Nat.reducePow, Int.reduceToNat, Int.reduceLT, Int.reduceLE, Int.reduceEq, Int.reduceNe, Int.reduceAdd, Int.reduceSub, Int.reduceMul, Int.reduceNeg]
  intro b0
  refine new_1 fun b1 h1 h2 => ?_
  refine new_2 fun b2 h3 h4 h5 => ?_
  try simp only [go_sem, reduceIte, Nat.reduceEqDiff, Nat.reduceAdd, Nat.reduceSub, Nat.reduceMul, Nat.reduceLT, Nat.reduceLeDiff, Nat.reducePow, Int.reduceToNat, Int.reduceLT, Int.reduceLE, Int.reduceEq, Int.reduceNe, Int.reduceAdd, Int.reduceSub, Int.reduceMul, Int.reduceNeg, h1, h2, h3, h4, h5]
  refine cE_vx hlv ⟨_, [], rfl, by simp, by simp⟩ ?_
  rintro _ ⟨L, rfl, hLn, hL⟩
  try simp only [go_sem, reduceIte, Nat.reduceEqDiff, Nat.reduceAdd, Nat.reduceSub, Nat.reduceMul, Nat.reduceLT, Nat.reduceLeDiff, Nat.reducePow, Int.reduceToNat, Int.reduceLT, Int.reduceLE, Int.reduceEq, Int.reduceNe, Int.reduceAdd, Int.reduceSub, Int.reduceMul, Int.reduceNeg, h1, h2, h3, h4, h5]
  refine cE_vx (hm L (by omega) hL) (isVp_any fs 7) ?_
  rintro _ ⟨q, rfl, hq⟩
  try simp only [go_sem, reduceIte, Nat.reduceEqDiff, Nat.reduceAdd, Nat.reduceSub, Nat.reduceMul, Nat.reduceLT, Nat.reduceLeDiff, Nat.reducePow, Int.reduceToNat, Int.reduceLT, Int.reduceLE, Int.reduceEq, Int.reduceNe, Int.reduceAdd, Int.reduceSub, Int.reduceMul, Int.reduceNeg, h1, h2, h3, h4, h5, Pr.cells]
  refine ⟨(show ¬ rdAdd _ _ _ _ _ from by simp [rdAdd, h1, h2, h3, h4, h5]), ?_⟩
  exact finK_drop ⟨_, ⟨q, rfl, hq⟩, rfl, rfl, rfl⟩
set_option maxRecDepth 100000 in
set_option maxHeartbeats 4000000 in
theorem valids_ok (fs : List Fd) (nx : Int) (p : Pr) (c : PrOk p) : VN P G 4 [.agg [.sl .none (fs.map fdD), .int .i64 nx], .agg p.cells] (.bool true) := by
  have hs := law08_sanity_ok (G := G)
  have hsm := Small_ok (G := G) p 300
  have h1 := pValid_ok (G := G) fs nx p
  have h2 := rValid_ok (G := G) fs nx p c.pi
  unfold VN
  refine VC.ofs (fun | 4 => [(0, []), (1, []), (3, [2]), (4, [2]), (2, []), (5, []), (6, []), (7, []), (8, [11]), (9, []), (10, []), (11, []), (12, []), (13, []), (14, []), (15, []), (16, []), (17, [])] | 99999999 => [(0, [0, 1, 2, 3, 4, 5, 15])] | _ => []) [4] mixed Tryz.func4 rfl rfl rfl rfl (by decide +kernel) (by simp) ?_
  have er : (fs.map fdD).length = fs.length := by simp
  simp only [go_sem, reduceIte, Nat.reduceEqDiff, Nat.reduceAdd, Nat.reduceSub, Nat.reduceMul, Nat.reduceLT, Nat.reduceLeDiff, Nat.reducePow, Int.reduceToNat, Int.reduceLT, Int.reduceLE, Int.reduceEq, Int.reduceNe, Int.reduceAdd, Int.reduceSub, Int.reduceMul, Int.reduceNeg]
  refine fun b3 => new_1 fun b4 q1 q2 => ?_
  have N := And.intro q1 q2
  generalize hβ : Heap.set _ b4 _ = β0
  have e3 : β0 b3 = some [.sl .none (fs.map fdD), .int .i64 nx] := by rw [← hβ]; simp [Heap.set, N]
  have e4 : β0 b4 = some p.cells := hit_set hβ
  clear hβ
  refine cK_vn hs ?_
  try simp only [go_sem, reduceIte, Nat.reduceEqDiff, Nat.reduceAdd, Nat.reduceSub, Nat.reduceMul, Nat.reduceLT, Nat.reduceLeDiff, Nat.reducePow, Int.reduceToNat, Int.reduceLT, Int.reduceLE, Int.reduceEq, Int.reduceNe, Int.reduceAdd, Int.reduceSub, Int.reduceMul, Int.reduceNeg, N, e3, e4, er]
  refine cK_vx hsm ?_
  rintro _ ⟨sm, rfl⟩
  cases sm
  · try simp only [go_sem, reduceIte, Nat.reduceEqDiff, Nat.reduceAdd, Nat.reduceSub, Nat.reduceMul, Nat.reduceLT, Nat.reduceLeDiff, Nat.reducePow, Int.reduceToNat, Int.reduceLT, Int.reduceLE, Int.reduceEq, Int.reduceNe, Int.reduceAdd, Int.reduceSub, Int.reduceMul, Int.reduceNeg, N, e3, e4, er]
    exact finK_drop ⟨rfl, rfl, rfl⟩
  try simp only [go_sem, reduceIte, Nat.reduceEqDiff, Nat.reduceAdd, Nat.reduceSub, Nat.reduceMul, Nat.reduceLT, Nat.reduceLeDiff, Nat.reducePow, Int.reduceToNat, Int.reduceLT, Int.reduceLE, Int.reduceEq, Int.reduceNe, Int.reduceAdd, Int.reduceSub, Int.reduceMul, Int.reduceNeg, N, e3, e4, er]
  refine cd_dec (fun _ => ?_) (fun h100 => ?_)
  · try simp only [go_sem, reduceIte, Nat.reduceEqDiff, Nat.reduceAdd, Nat.reduceSub, Nat.reduceMul, Nat.reduceLT, Nat.reduceLeDiff, Nat.reducePow, Int.reduceToNat, Int.reduceLT, Int.reduceLE, Int.reduceEq, Int.reduceNe, Int.reduceAdd, Int.reduceSub, Int.reduceMul, Int.reduceNeg, N, e3, e4, er]
    exact finK_drop ⟨rfl, rfl, rfl⟩
  have hM := Made8_ok (G := G) fs nx (by omega) p c.lim c.i
  try simp only [go_sem, reduceIte, Nat.reduceEqDiff, Nat.reduceAdd, Nat.reduceSub, Nat.reduceMul, Nat.reduceLT, Nat.reduceLeDiff, Nat.reducePow, Int.reduceToNat, Int.reduceLT, Int.reduceLE, Int.reduceEq, Int.reduceNe, Int.reduceAdd, Int.reduceSub, Int.reduceMul, Int.reduceNeg, N, e3, e4, er]
  (first | refine cK_vn (h1) ?_ | refine cE_vn (h1) ?_)
  try simp only [go_sem, reduceIte, Nat.reduceEqDiff, Nat.reduceAdd, Nat.reduceSub, Nat.reduceMul, Nat.reduceLT, Nat.reduceLeDiff, Nat.reducePow, Int.reduceToNat, Int.reduceLT, Int.reduceLE, Int.reduceEq, Int.reduceNe, Int.reduceAdd, Int.reduceSub, Int.reduceMul, Int.reduceNeg, N, e3, e4, er]
  (first | refine cK_vn (h2) ?_ | refine cE_vn (h2) ?_)
  try simp only [go_sem, reduceIte, Nat.reduceEqDiff, Nat.reduceAdd, Nat.reduceSub, Nat.reduceMul, Nat.reduceLT, Nat.reduceLeDiff, Nat.reducePow, Int.reduceToNat, Int.reduceLT, Int.reduceLE, Int.reduceEq, Int.reduceNe, Int.reduceAdd, Int.reduceSub, Int.reduceMul, Int.reduceNeg, N, e3, e4, er, beq_self_eq_true]
  refine cE_vx hM (isVp_any fs 7) ?_
  rintro _ ⟨q, rfl, hq⟩
  try simp only [go_sem, reduceIte, Nat.reduceEqDiff, Nat.reduceAdd, Nat.reduceSub, Nat.reduceMul, Nat.reduceLT, Nat.reduceLeDiff, Nat.reducePow, Int.reduceToNat, Int.reduceLT, Int.reduceLE, Int.reduceEq, Int.reduceNe, Int.reduceAdd, Int.reduceSub, Int.reduceMul, Int.reduceNeg, N, e3, e4, er, beq_self_eq_true]
  have h3 := pValid_ok (G := G) fs nx q
  rw [hq.valid] at h3
  (first | refine cK_vn (h3) ?_ | refine cE_vn (h3) ?_)
  try simp only [go_sem, reduceIte, Nat.reduceEqDiff, Nat.reduceAdd, Nat.reduceSub, Nat.reduceMul, Nat.reduceLT, Nat.reduceLeDiff, Nat.reducePow, Int.reduceToNat, Int.reduceLT, Int.reduceLE, Int.reduceEq, Int.reduceNe, Int.reduceAdd, Int.reduceSub, Int.reduceMul, Int.reduceNeg, N, e3, e4, er, beq_self_eq_true]
  exact finK_drop ⟨rfl, rfl, rfl⟩
end Go.Proofs.YtbfkhepfgibonaaGreatS
