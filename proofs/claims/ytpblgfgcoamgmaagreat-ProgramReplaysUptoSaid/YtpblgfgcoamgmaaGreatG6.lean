/-
  Texts of this proof, merged: MC R4 R5 MD Q7 V32 V33 T1 T2 T3 T4 T5 T6 T7 QL QD.
  Conditions: as said at each part.
-/
import Derived.RecoverIn
import Derived.Test.YtpblgfgcoamgmaaGreatG5
set_option linter.unusedVariables false
set_option linter.unusedSimpArgs false
namespace Go.Proofs.YtpblgfgcoamgmaaGreatS
open Go Go.Proofs.YtpblgfgcoamgmaaGreatV

variable {G : Heap}
attribute [local irreducible] VN VC VX VQ VTA

theorem Cl_cells4 (l : List Cl) : ∀ x ∈ l.map clD, x.cells.length = 4 := fun x hx => by
  obtain ⟨y, _, rfl⟩ := List.mem_map.1 hx; rfl
def ClFit (fs : List Fd) (c : Cl) : Prop := ∃ f ∈ fs, f.id = c.1 ∧ isTy f.type = true ∧ VOk f.type c.2 ∧ c.2.null = false
structure RwFit (fs : List Fd) (r : Rw) : Prop where
  sub : (r.map (·.1)).Sublist (fs.map (·.id))
  ok : ∀ c ∈ r, ClFit fs c
theorem RwFit.nil (fs : List Fd) : RwFit fs [] := ⟨by simp, by simp⟩
set_option maxHeartbeats 4000000 in
theorem Row_ok (fs : List Fd) (nx : Int) (l : List Vl) (z : fs.length ≤ 64) (hty : ∀ f ∈ fs, 1 ≤ f.type ∧ f.type ≤ 6) (hi : ∀ v ∈ l, I64 v.n) : VX P G 114 [.agg [.sl .none (fs.map fdD), .int .i64 nx], .sl .none (l.map Vl.d)] (fun d => ∃ r : Rw, d = .agg [.sl .none (r.map clD)] ∧ RwFit fs r) := by
  unfold VX
  refine VC.ofc (fun | 7 => [(0, []), (1, []), (2, []), (3, []), (4, []), (5, []), (6, [7]), (7, []), (8, [])] | 99999999 => [(0, [0, 1, 2, 4, 5, 6, 7, 8, 20, 37, 47])] | _ => []) [.cell 4 52] mixed Tryz.func114 rfl rfl rfl rfl (by decide +kernel) (by simp) ?_
  simp only [go_sem, reduceIte, Nat.reduceEqDiff, Nat.reduceAdd, Nat.reduceSub, Nat.reduceMul, Nat.reduceLT, Nat.reduceLeDiff, Nat.reducePow, Int.reduceToNat, Int.reduceLT, Int.reduceLE, Int.reduceEq, Int.reduceNe, Int.reduceAdd, Int.reduceSub, Int.reduceMul, Int.reduceNeg]
  intro b0
  refine new_1 fun b1 h1 h2 => ?_
  refine new_2 fun b2 h3 h4 h5 => ?_
  try simp only [go_sem, reduceIte, Nat.reduceEqDiff, Nat.reduceAdd, Nat.reduceSub, Nat.reduceMul, Nat.reduceLT, Nat.reduceLeDiff, Nat.reducePow, Int.reduceToNat, Int.reduceLT, Int.reduceLE, Int.reduceEq, Int.reduceNe, Int.reduceAdd, Int.reduceSub, Int.reduceMul, Int.reduceNeg, h1, h2, h3, h4, h5]
  generalize hβ : Heap.set _ b2 _ = β0
  have e0 : β0 b0 = some [.sl .none (fs.map fdD), .int .i64 nx] := by rw [← hβ]; simp [Heap.set, h1, h2, h3, h4, h5]
  have e1 : β0 b1 = some [.sl .full []] := by rw [← hβ]; simp [Heap.set, h1, h2, h3, h4, h5]
  have e2 : β0 b2 = some [.sl .full []] := by rw [← hβ]; simp [Heap.set]
  clear hβ
  refine vwq_loop (fun v => ∃ (j : Nat) (r : Rw) (tk : Tk), j ≤ fs.length ∧ r.length ≤ j ∧ (r.map (·.1)).Sublist ((fs.take j).map (·.id)) ∧ (∀ c ∈ r, ClFit fs c) ∧ TW 4 tk v.ω ∧ v.σ 1 = .sl .none (l.map Vl.d) ∧ v.σ 2 = .pb b0 0 ∧ v.σ 4 = .pb b1 0 ∧ v.σ 5 = .pb b2 0 ∧ v.σ 6 = .int .i64 j ∧ v.β b0 = some [.sl .none (fs.map fdD), .int .i64 nx] ∧ v.β b1 = some [.sl .full []] ∧ v.β b2 = some [.sl tk (r.map clD)]) (fun v => fs.length - (ival (v.σ 6)).toNat) ⟨0, [], .full, by omega, by simp, by simp, by simp, TW.full 4, rfl, rfl, rfl, rfl, rfl, e0, e1, e2⟩ ?_
  clear e0 e1 e2 β0
  rintro σ β ω ⟨j, r, tk, j1, j2, hu, hr, hw, q1, q2, q4, q5, q6, e0, e1, e2⟩
  dsimp only at hw q1 q2 q4 q5 q6 e0 e1 e2
  have ho := hw.ok
  have hg := hw.gone
  try simp only [go_sem, reduceIte, Nat.reduceEqDiff, Nat.reduceAdd, Nat.reduceSub, Nat.reduceMul, Nat.reduceLT, Nat.reduceLeDiff, Nat.reducePow, Int.reduceToNat, Int.reduceLT, Int.reduceLE, Int.reduceEq, Int.reduceNe, Int.reduceAdd, Int.reduceSub, Int.reduceMul, Int.reduceNeg, q1, q2, q4, q5, q6, e0, e1, e2]
  refine cd_dec (fun g => ?_) (fun g => ?_)
  · obtain ⟨g, g'⟩ := g
    obtain ⟨x, hx, ex⟩ := Fd_at (l := fs) (j := j) (by rw [List.length_map] at g; omega)
    obtain ⟨v, hv, ev⟩ := Vl_at (l := l) (j := j) g'
    have g1 := eq_true g
    have g2 := eq_true g'
    rw [List.length_map] at g
    have wj := wrap_i64 (x := (j : Int) + 1) (by omega) (by omega)
    have c1 : ((0 : Int) ≤ j) = True := eq_true (by omega)
    have htk : (fs.take (j + 1)).map (·.id) = (fs.take j).map (·.id) ++ [x.id] := by
      obtain ⟨y1, y2⟩ := List.getElem?_eq_some_iff.1 hx
      rw [List.take_succ_eq_append_getElem y1, y2]; simp
    have hu' : (r.map (·.1)).Sublist ((fs.take (j + 1)).map (·.id)) := by rw [htk]; exact hu.trans (List.sublist_append_left _ _)
    have hxt := hty x (List.mem_of_getElem? hx)
    try simp only [go_sem, reduceIte, Nat.reduceEqDiff, Nat.reduceAdd, Nat.reduceSub, Nat.reduceMul, Nat.reduceLT, Nat.reduceLeDiff, Nat.reducePow, Int.reduceToNat, Int.reduceLT, Int.reduceLE, Int.reduceEq, Int.reduceNe, Int.reduceAdd, Int.reduceSub, Int.reduceMul, Int.reduceNeg, q1, q2, q4, q5, q6, e0, e1, e2, ex, ev, g1, g2, c1]
    refine new_any fun b3 hb => ?_
    have m0 := box_ne hb e0
    have m1 := box_ne hb e1
    have m2 := box_ne hb e2
    by_cases k6 : x.type = 6
    · try simp only [go_sem, reduceIte, Nat.reduceEqDiff, Nat.reduceAdd, Nat.reduceSub, Nat.reduceMul, Nat.reduceLT, Nat.reduceLeDiff, Nat.reducePow, Int.reduceToNat, Int.reduceLT, Int.reduceLE, Int.reduceEq, Int.reduceNe, Int.reduceAdd, Int.reduceSub, Int.reduceMul, Int.reduceNeg, q1, q2, q4, q5, q6, e0, e1, e2, ex, ev, g1, g2, c1, m0, m1, m2, k6, wj]
      refine ⟨⟨j + 1, r, tk, by omega, by omega, hu', hr, hw, ?_⟩, by omega⟩
      simp [Heap.set, e0, e1, e2, m0, m1, m2]
    have hT : isTy x.type = true := by simp [isTy]; omega
    have hc := Made5_ok (G := G) v x.type hT (hi v (List.mem_of_getElem? hv))
    simp only [Vl.cells] at hc
    cases hvn : v.null
    case neg.true =>
      try simp only [go_sem, reduceIte, Nat.reduceEqDiff, Nat.reduceAdd, Nat.reduceSub, Nat.reduceMul, Nat.reduceLT, Nat.reduceLeDiff, Nat.reducePow, Int.reduceToNat, Int.reduceLT, Int.reduceLE, Int.reduceEq, Int.reduceNe, Int.reduceAdd, Int.reduceSub, Int.reduceMul, Int.reduceNeg, q1, q2, q4, q5, q6, e0, e1, e2, ex, ev, g1, g2, c1, m0, m1, m2, k6, hvn, wj]
      refine ⟨⟨j + 1, r, tk, by omega, by omega, hu', hr, hw, ?_⟩, by omega⟩
      simp [Heap.set, e0, e1, e2, m0, m1, m2]
    rw [hvn] at hc
    try simp only [go_sem, reduceIte, Nat.reduceEqDiff, Nat.reduceAdd, Nat.reduceSub, Nat.reduceMul, Nat.reduceLT, Nat.reduceLeDiff, Nat.reducePow, Int.reduceToNat, Int.reduceLT, Int.reduceLE, Int.reduceEq, Int.reduceNe, Int.reduceAdd, Int.reduceSub, Int.reduceMul, Int.reduceNeg, q1, q2, q4, q5, q6, e0, e1, e2, ex, ev, g1, g2, c1, m0, m1, m2, k6, hvn]
    refine cE_vx hc ⟨_, Vl.nul, rfl, .nul hT⟩ ?_
    rintro _ ⟨w, rfl, hwo⟩
    try simp only [go_sem, reduceIte, Nat.reduceEqDiff, Nat.reduceAdd, Nat.reduceSub, Nat.reduceMul, Nat.reduceLT, Nat.reduceLeDiff, Nat.reducePow, Int.reduceToNat, Int.reduceLT, Int.reduceLE, Int.reduceEq, Int.reduceNe, Int.reduceAdd, Int.reduceSub, Int.reduceMul, Int.reduceNeg, q1, q2, q4, q5, q6, e0, e1, e2, m0, m1, m2, Vl.cells]
    refine new_any fun b4 hb => ?_
    simp only [set_none] at hb
    have p0 := box_ne hb.2 e0
    have p1 := box_ne hb.2 e1
    have p2 := box_ne hb.2 e2
    cases hwn : w.null
    all_goals try simp only [go_sem, reduceIte, Nat.reduceEqDiff, Nat.reduceAdd, Nat.reduceSub, Nat.reduceMul, Nat.reduceLT, Nat.reduceLeDiff, Nat.reducePow, Int.reduceToNat, Int.reduceLT, Int.reduceLE, Int.reduceEq, Int.reduceNe, Int.reduceAdd, Int.reduceSub, Int.reduceMul, Int.reduceNeg, q1, q2, q4, q5, q6, e0, e1, e2, m0, m1, m2, p0, p1, p2, hb, hwn, ho, hg, wj]
    · refine ⟨Cl_cells4 _, by rw [List.length_map]; omega, fun t' _ => ⟨⟨j + 1, r ++ [(x.id, w)], .live t' 4, by omega, by simp; omega, ?_, ?_, TW.live 4 t', ?_⟩, by omega⟩⟩
      · rw [htk, List.map_append]; exact hu.append (List.Sublist.refl _)
      · intro c hc
        rcases List.mem_append.1 hc with hc | hc
        · exact hr c hc
        · simp at hc; subst hc; exact ⟨x, List.mem_of_getElem? hx, rfl, hT, hwo, hwn⟩
      · simp [Heap.set, e0, e1, e2, m0, m1, m2, p0, p1, p2, hb, clD, hwn, h1, h2, h3, h4, h5]
    · refine ⟨⟨j + 1, r, tk, by omega, by omega, hu', hr, hw, ?_⟩, by omega⟩
      simp [Heap.set, e0, e1, e2, m0, m1, m2, p0, p1, p2]
  · try simp only [go_sem, reduceIte, Nat.reduceEqDiff, Nat.reduceAdd, Nat.reduceSub, Nat.reduceMul, Nat.reduceLT, Nat.reduceLeDiff, Nat.reducePow, Int.reduceToNat, Int.reduceLT, Int.reduceLE, Int.reduceEq, Int.reduceNe, Int.reduceAdd, Int.reduceSub, Int.reduceMul, Int.reduceNeg, q1, q2, q4, q5, q6, e0, e1, e2]
    exact finK_drop ⟨_, ⟨r, rfl, hu.trans ((List.take_sublist j fs).map _), hr⟩, rfl, rfl, rfl⟩
end Go.Proofs.YtpblgfgcoamgmaaGreatS
namespace Go.Proofs.YtpblgfgcoamgmaaGreatS
open Go Go.Proofs.YtpblgfgcoamgmaaGreatV

variable {G : Heap}
attribute [local irreducible] VN VC VX VQ VTA

def vsD (l : List Vl) : D := .sl .none (l.map Vl.d)
theorem vs_at {l : List (List Vl)} {j : Nat} (h : j < l.length) : ∃ x, l[j]? = some x ∧ (l.map vsD).getD j .any = .sl .none (x.map Vl.d) := at_map h
theorem Rw_cells1 (l : List Rw) : ∀ x ∈ l.map rwD, x.cells.length = 1 := fun x hx => by
  obtain ⟨y, _, rfl⟩ := List.mem_map.1 hx; rfl
def isR (fs : List Fd) (n : Nat) (d : D) : Prop := ∃ L : List Rw, d = .sl .none (L.map rwD) ∧ L.length ≤ n ∧ ∀ r ∈ L, RwFit fs r
set_option maxHeartbeats 4000000 in
theorem Rows_ok (fs : List Fd) (nx : Int) (raw : List (List Vl)) (n : Nat) (z : fs.length ≤ 64) (hty : ∀ f ∈ fs, 1 ≤ f.type ∧ f.type ≤ 6) (zn : n ≤ 1048576) (hi : ∀ l ∈ raw, ∀ v ∈ l, I64 v.n) : VX P G 69 [.agg [.sl .none (fs.map fdD), .int .i64 nx], .sl .none (raw.map vsD), .int .i64 n] (isR fs n) := by
  unfold VX
  refine VC.ofs (fun | 5 => [(0, []), (1, []), (2, []), (3, []), (4, []), (5, []), (6, []), (7, []), (8, []), (9, [])] | 99999999 => [(0, [0, 1, 2, 3, 6, 7, 8, 18])] | _ => []) [6] mixed Tryz.func69 rfl rfl rfl rfl (by decide +kernel) (by simp) ?_
  simp only [go_sem, reduceIte, Nat.reduceEqDiff, Nat.reduceAdd, Nat.reduceSub, Nat.reduceMul, Nat.reduceLT, Nat.reduceLeDiff, Nat.reducePow, Int.reduceToNat, Int.reduceLT, Int.reduceLE, Int.reduceEq, Int.reduceNe, Int.reduceAdd, Int.reduceSub, Int.reduceMul, Int.reduceNeg]
  intro b0
  generalize hβ : Heap.set Heap.nil b0 _ = β0
  have e0 : β0 b0 = some [.sl .none (fs.map fdD), .int .i64 nx] := by rw [← hβ]; simp only [Heap.set, if_true]
  clear hβ
  refine vwq_loop (fun v => ∃ (j : Nat) (L : List Rw) (tk : Tk), j ≤ raw.length ∧ j ≤ n ∧ L.length ≤ j ∧ (∀ r ∈ L, RwFit fs r) ∧ TW 1 tk v.ω ∧ v.σ 1 = .sl .none (raw.map vsD) ∧ v.σ 2 = .int .i64 n ∧ v.σ 3 = .pb b0 0 ∧ v.σ 7 = .sl tk (L.map rwD) ∧ v.σ 8 = .int .i64 j ∧ v.β = β0) (fun v => raw.length - (ival (v.σ 8)).toNat) ⟨0, [], .full, by omega, by omega, by simp, by simp, TW.full 1, rfl, rfl, rfl, rfl, rfl, rfl⟩ ?_
  rintro σ β ω ⟨j, L, tk, j1, j2, j3, hr, hw, q1, q2, q3, q7, q8, rfl⟩
  dsimp only at hw q1 q2 q3 q7 q8 e0
  have ho := hw.ok
  have hg := hw.gone
  try simp only [go_sem, reduceIte, Nat.reduceEqDiff, Nat.reduceAdd, Nat.reduceSub, Nat.reduceMul, Nat.reduceLT, Nat.reduceLeDiff, Nat.reducePow, Int.reduceToNat, Int.reduceLT, Int.reduceLE, Int.reduceEq, Int.reduceNe, Int.reduceAdd, Int.reduceSub, Int.reduceMul, Int.reduceNeg, q1, q2, q3, q7, q8, e0]
  refine cd_dec (fun g => ?_) (fun g => ?_)
  · obtain ⟨g, g'⟩ := g
    obtain ⟨x, hx, ex⟩ := vs_at (l := raw) (j := j) (by rw [List.length_map] at g; omega)
    have g1 := eq_true g
    rw [List.length_map] at g
    have wj := wrap_i64 (x := (j : Int) + 1) (by omega) (by omega)
    have c1 : ((0 : Int) ≤ j) = True := eq_true (by omega)
    have hc := Row_ok (G := G) fs nx x z hty (hi x (List.mem_of_getElem? hx))
    try simp only [go_sem, reduceIte, Nat.reduceEqDiff, Nat.reduceAdd, Nat.reduceSub, Nat.reduceMul, Nat.reduceLT, Nat.reduceLeDiff, Nat.reducePow, Int.reduceToNat, Int.reduceLT, Int.reduceLE, Int.reduceEq, Int.reduceNe, Int.reduceAdd, Int.reduceSub, Int.reduceMul, Int.reduceNeg, q1, q2, q3, q7, q8, e0, ex, g1, c1]
    refine cE_vx hc ⟨_, [], rfl, .nil fs⟩ ?_
    rintro _ ⟨w, rfl, hwo⟩
    try simp only [go_sem, reduceIte, Nat.reduceEqDiff, Nat.reduceAdd, Nat.reduceSub, Nat.reduceMul, Nat.reduceLT, Nat.reduceLeDiff, Nat.reducePow, Int.reduceToNat, Int.reduceLT, Int.reduceLE, Int.reduceEq, Int.reduceNe, Int.reduceAdd, Int.reduceSub, Int.reduceMul, Int.reduceNeg, q1, q2, q3, q7, q8, e0, ho, hg, wj]
    refine ⟨Rw_cells1 _, by rw [List.length_map]; omega, fun t' _ => ⟨⟨j + 1, L ++ [w], .live t' 1, by omega, by omega, by simp; omega, ?_, TW.live 1 t', ?_⟩, by omega⟩⟩
    · intro c hc
      rcases List.mem_append.1 hc with hc | hc
      · exact hr c hc
      · simp at hc; subst hc; exact hwo
    · simp [rwD]
  · try simp only [go_sem, reduceIte, Nat.reduceEqDiff, Nat.reduceAdd, Nat.reduceSub, Nat.reduceMul, Nat.reduceLT, Nat.reduceLeDiff, Nat.reducePow, Int.reduceToNat, Int.reduceLT, Int.reduceLE, Int.reduceEq, Int.reduceNe, Int.reduceAdd, Int.reduceSub, Int.reduceMul, Int.reduceNeg, q1, q2, q3, q7, q8, e0]
    exact finK_drop ⟨_, ⟨L, rfl, by omega, hr⟩, rfl, rfl, rfl⟩
end Go.Proofs.YtpblgfgcoamgmaaGreatS
namespace Go.Proofs.YtpblgfgcoamgmaaGreatS
open Go Go.Proofs.YtpblgfgcoamgmaaGreatV

variable {G : Heap}
attribute [local irreducible] VN VC VX VQ VY VW VTA VT0

end Go.Proofs.YtpblgfgcoamgmaaGreatS
namespace Go.Proofs.YtpblgfgcoamgmaaGreatS
open Go Go.Proofs.YtpblgfgcoamgmaaGreatV

variable {G : Heap}
attribute [local irreducible] VN VC VX VQ VY VW VTA VT0

structure Vp (fs : List Fd) (n : Nat) (q : Pr) : Prop where
  dep : depN n q ≤ n
  form : ∀ s ∈ subs q, FormP s
  fit : ∀ s ∈ subs q, atomOk fs s = true
theorem Vp.valid {fs : List Fd} {q : Pr} (h : Vp fs 8 q) : validF fs q = true := by
  unfold validF wellF
  rw [decide_eq_true h.dep, Bool.true_and, Bool.and_eq_true, List.all_eq_true, List.all_eq_true]
  exact ⟨fun s hs => decide_eq_true (h.form s hs), h.fit⟩
theorem Vp.leaf {fs : List Fd} {n : Nat} {q : Pr} (h : q.kids = []) (hf : FormP q) (hp : atomOk fs q = true) : Vp fs (n + 1) q := by
  refine ⟨?_, fun s hs => ?_, fun s hs => ?_⟩
  · rw [depN, h]; simp
  all_goals
    rw [subs_leaf h, List.mem_singleton] at hs
    subst hs; assumption
theorem Vp.node {fs : List Fd} {n : Nat} {q : Pr} (hk : ∀ k ∈ q.kids, Vp fs n k) (hf : FormP q) (hp : atomOk fs q = true) : Vp fs (n + 1) q := by
  refine ⟨?_, fun s hs => ?_, fun s hs => ?_⟩
  · rw [depN]
    have := foldl_max_leR (l := q.kids.map (depN n)) (Nat.zero_le n) fun x hx => by
      obtain ⟨k, hk', rfl⟩ := List.mem_map.1 hx; exact (hk k hk').dep
    omega
  all_goals
    rw [subs_eq] at hs
    rcases List.mem_cons.1 hs with rfl | hs
    · assumption
    · rw [subsL_flat] at hs
      obtain ⟨k, hk', hs'⟩ := List.mem_flatMap.1 hs
      first | exact (hk k hk').form s hs' | exact (hk k hk').fit s hs'
theorem fit0 {fs : List Fd} {o a b c : Int} {s : List Vl} {t : ByteArray} {l : List Pr} (h : isAt o = false) : atomOk fs (.mk o a b c s t l) = true := by
  unfold atomOk
  rw [show (Pr.mk o a b c s t l).op = o from rfl, h]; rfl
theorem Vp.nul {fs : List Fd} {n : Nat} : Vp fs (n + 1) (.mk 0 0 0 0 [] ByteArray.empty []) := .leaf rfl nul_form (fit0 rfl)
def LvOk (fs : List Fd) (f : Fd) : Prop := typR fs f.id = f.type ∧ isTy f.type = true
theorem atom_of {fs : List Fd} {f : Fd} (h : LvOk fs f) {o : Int} {lo hi : Int} {s : List Vl} {t : ByteArray} (hfit : fitsF (.mk o f.id lo hi s t []) f.type = true) : atomOk fs (.mk o f.id lo hi s t []) = true := by
  rw [atomOk_typR, show (Pr.mk o f.id lo hi s t []).id = f.id from rfl, h.1, hfit, Bool.or_true]
theorem valOk_200 {v : Vl} {t : Int} (h : valOk v t = true) : v.s.size ≤ 200 := by
  unfold valOk at h
  rw [Bool.and_eq_true] at h
  obtain ⟨_, h⟩ := h
  split at h
  · have := of_decide_eq_true h; subst this; decide
  split at h
  · exact (of_decide_eq_true h).2
  · rw [(of_decide_eq_true h).1]; decide
end Go.Proofs.YtpblgfgcoamgmaaGreatS
namespace Go.Proofs.YtpblgfgcoamgmaaGreatS
open Go Go.Proofs.YtpblgfgcoamgmaaGreatV

variable {G : Heap}
attribute [local irreducible] VN VC VX VQ VTA

theorem mod9_ok (x : Int) (n : Nat) (h0 : 0 < n) (hn : n ≤ 1099511627776) : VX P G 154 [.int .i64 x, .int .i64 n] (isIx n) := by
  unfold VX
  refine VC.ofs (fun | 99999999 => [(0, [0, 1, 4])] | _ => []) [4] mixed Tryz.func154 rfl rfl rfl rfl (by decide +kernel) (by simp) ?_
  simp only [go_sem, reduceIte, Nat.reduceEqDiff, Nat.reduceAdd, Nat.reduceSub, Nat.reduceMul, Nat.reduceLT, Nat.reduceLeDiff, Nat.reducePow, Int.reduceToNat, Int.reduceLT, Int.reduceLE, Int.reduceEq, Int.reduceNe, Int.reduceAdd, Int.reduceSub, Int.reduceMul, Int.reduceNeg]
  have e1 := Int.tmod_lt_of_pos x (show (0 : Int) < n by omega)
  have e2 : -(n : Int) < x.tmod n := Int.lt_tmod_of_pos x (show (0 : Int) < n by omega)
  generalize x.tmod n = y at e1 e2
  rw [wrap_i64 (by omega) (by omega)]
  have e3 := Int.tmod_lt_of_pos (y + n) (show (0 : Int) < n by omega)
  have e4 : 0 ≤ (y + n).tmod n := Int.tmod_nonneg _ (by omega)
  exact ⟨by omega, by omega, finK_exact ⟨_, ⟨((y + n).tmod n).toNat, by rw [Int.toNat_of_nonneg e4], by omega⟩, rfl, rfl, rfl⟩⟩
theorem Leaves_ok (fs : List Fd) (nx : Int) (z : fs.length ≤ 64) : VN P G 153 [.agg [.sl .none (fs.map fdD), .int .i64 nx]] (.sl .none ((leavesF fs).map iD)) := by
  unfold VN
  refine VC.ofs (fun | 99999999 => [(0, [0, 1, 2, 3, 4, 10, 19])] | _ => []) [2] mixed Tryz.func153 rfl rfl rfl rfl (by decide +kernel) (by simp) ?_
  have el : (fs.map fdD).length = fs.length := by simp
  simp only [go_sem, reduceIte, Nat.reduceEqDiff, Nat.reduceAdd, Nat.reduceSub, Nat.reduceMul, Nat.reduceLT, Nat.reduceLeDiff, Nat.reducePow, Int.reduceToNat, Int.reduceLT, Int.reduceLE, Int.reduceEq, Int.reduceNe, Int.reduceAdd, Int.reduceSub, Int.reduceMul, Int.reduceNeg]
  intro b1
  generalize hβ : Heap.set Heap.nil b1 _ = β0
  have e1 := hit_set hβ
  clear hβ
  try simp only [go_sem, reduceIte, Nat.reduceEqDiff, Nat.reduceAdd, Nat.reduceSub, Nat.reduceMul, Nat.reduceLT, Nat.reduceLeDiff, Nat.reducePow, Int.reduceToNat, Int.reduceLT, Int.reduceLE, Int.reduceEq, Int.reduceNe, Int.reduceAdd, Int.reduceSub, Int.reduceMul, Int.reduceNeg, el]
  refine vwq_loop (fun v => ∃ (j : Nat) (tk : Tk), j ≤ fs.length ∧ TW 1 tk v.ω ∧ v.σ 1 = .pb b1 0 ∧ v.σ 3 = .sl tk ((leavesF (fs.take j)).map iD) ∧ v.σ 4 = .int .i64 j ∧ v.β b1 = some [.sl .none (fs.map fdD), .int .i64 nx]) (fun v => fs.length - (ival (v.σ 4)).toNat) ⟨0, .full, by omega, TW.full 1, rfl, rfl, rfl, e1⟩ ?_
  clear e1
  rintro σ β ω ⟨j, tk, hj, hw, q1, q3, q4, e1⟩
  dsimp only at hw q1 q3 q4 e1
  have hto := hw.ok
  have htg := hw.gone
  obtain ⟨L, hL⟩ : ∃ L, leavesF (fs.take j) = L := ⟨_, rfl⟩
  have hLl : L.length ≤ j := by rw [← hL, leavesF, List.length_map]; exact Nat.le_trans (List.length_filter_le _ _) (by simp; omega)
  rw [hL] at q3
  try simp only [go_sem, reduceIte, Nat.reduceEqDiff, Nat.reduceAdd, Nat.reduceSub, Nat.reduceMul, Nat.reduceLT, Nat.reduceLeDiff, Nat.reducePow, Int.reduceToNat, Int.reduceLT, Int.reduceLE, Int.reduceEq, Int.reduceNe, Int.reduceAdd, Int.reduceSub, Int.reduceMul, Int.reduceNeg, q1, q3, q4, e1, el]
  refine cd_dec (fun k => ?_) (fun k => ?_)
  · have k' := eq_true k
    obtain ⟨x, hx, ex⟩ := Fd_at (l := fs) (j := j) (by omega)
    have c1 : ((0 : Int) ≤ j) = True := eq_true (by omega)
    have wj := wrap_i64 (x := (j : Int) + 1) (by omega) (by omega)
    have hs : leavesF (fs.take (j + 1)) = L ++ (if x.type = 6 then [] else [x.id]) := by
      obtain ⟨h1, h2⟩ := List.getElem?_eq_some_iff.1 hx
      rw [List.take_succ_eq_append_getElem h1, leavesF, List.filter_append, List.map_append, h2]
      rw [leavesF] at hL
      rw [hL]
      by_cases h : x.type = 6 <;> simp [h]
    try simp only [go_sem, reduceIte, Nat.reduceEqDiff, Nat.reduceAdd, Nat.reduceSub, Nat.reduceMul, Nat.reduceLT, Nat.reduceLeDiff, Nat.reducePow, Int.reduceToNat, Int.reduceLT, Int.reduceLE, Int.reduceEq, Int.reduceNe, Int.reduceAdd, Int.reduceSub, Int.reduceMul, Int.reduceNeg, q1, q3, q4, e1, el, ex, c1, k', ne_eq]
    refine cd_dec (fun k6 => ?_) (fun k6 => ?_)
    · rw [if_neg k6] at hs
      try simp only [go_sem, reduceIte, Nat.reduceEqDiff, Nat.reduceAdd, Nat.reduceSub, Nat.reduceMul, Nat.reduceLT, Nat.reduceLeDiff, Nat.reducePow, Int.reduceToNat, Int.reduceLT, Int.reduceLE, Int.reduceEq, Int.reduceNe, Int.reduceAdd, Int.reduceSub, Int.reduceMul, Int.reduceNeg, q1, q3, q4, e1, el, ex, c1, k', hto, htg, wj]
      refine ⟨fun y hy => ?_, by rw [List.length_map]; omega, fun t' _ => ⟨⟨j + 1, .live t' 1, by omega, TW.live 1 t', by rw [hs]; simp [iD], rfl⟩, by omega⟩⟩
      obtain ⟨z, _, rfl⟩ := List.mem_map.1 hy
      rfl
    · rw [if_pos (Decidable.not_not.1 k6)] at hs
      try simp only [go_sem, reduceIte, Nat.reduceEqDiff, Nat.reduceAdd, Nat.reduceSub, Nat.reduceMul, Nat.reduceLT, Nat.reduceLeDiff, Nat.reducePow, Int.reduceToNat, Int.reduceLT, Int.reduceLE, Int.reduceEq, Int.reduceNe, Int.reduceAdd, Int.reduceSub, Int.reduceMul, Int.reduceNeg, q1, q3, q4, e1, el, ex, c1, k', hto, htg, wj]
      exact ⟨⟨j + 1, tk, by omega, hw, by rw [hs]; simp, rfl⟩, by omega⟩
  · obtain rfl : j = fs.length := by omega
    rw [List.take_length] at hL
    try simp only [go_sem, reduceIte, Nat.reduceEqDiff, Nat.reduceAdd, Nat.reduceSub, Nat.reduceMul, Nat.reduceLT, Nat.reduceLeDiff, Nat.reducePow, Int.reduceToNat, Int.reduceLT, Int.reduceLE, Int.reduceEq, Int.reduceNe, Int.reduceAdd, Int.reduceSub, Int.reduceMul, Int.reduceNeg, q1, q3, q4, e1, el]
    exact finK_drop ⟨by rw [hL]; rfl, rfl, rfl⟩
theorem VOk_bool {t : Int} (v : Vl) (h : VOk t v) (hn : v.null = false) : valOk v t = true ∧ v.null = false ∧ I64' v.n := ⟨h.ok, hn, h.n⟩
set_option maxRecDepth 100000 in
set_option maxHeartbeats 8000000 in
theorem set9_ok (l : List Vl) (t : Int) (ht : isTy t = true) (hi : ∀ v ∈ l, I64' v.n) : VX P G 155 [.sl .none (l.map Vl.d), .int .i64 t] (isSet t) := by
  unfold VX
  refine VC.ofs (fun | 7 => [(0, []), (1, []), (2, []), (3, []), (4, []), (5, []), (6, []), (7, []), (8, []), (9, []), (10, []), (11, []), (12, [])] | 9 => [(0, []), (1, []), (2, []), (3, []), (4, []), (5, []), (6, []), (7, []), (8, []), (9, []), (10, []), (11, []), (12, []), (13, []), (14, []), (15, [])] | 99999999 => [(0, [0, 1, 4, 5, 6, 7, 8, 9, 18, 39, 57])] | _ => []) [4] mixed Tryz.func155 rfl rfl rfl rfl (by decide +kernel) (by simp) ?_
  have el : (l.map Vl.d).length = l.length := by simp
  simp only [go_sem, reduceIte, Nat.reduceEqDiff, Nat.reduceAdd, Nat.reduceSub, Nat.reduceMul, Nat.reduceLT, Nat.reduceLeDiff, Nat.reducePow, Int.reduceToNat, Int.reduceLT, Int.reduceLE, Int.reduceEq, Int.reduceNe, Int.reduceAdd, Int.reduceSub, Int.reduceMul, Int.reduceNeg]
  refine vwq_loop (fun v => ∃ (j : Nat) (xs : List Vl) (tk : Tk), j ≤ l.length ∧ j ≤ 4 ∧ xs.length ≤ j ∧ SetOk t xs ∧ v.σ 0 = .sl .none (l.map Vl.d) ∧ v.σ 1 = .int .i64 t ∧ v.σ 5 = .sl tk (xs.map Vl.d) ∧ v.σ 6 = .int .i64 j) (fun v => l.length - (ival (v.σ 6)).toNat) ⟨0, [], .full, by omega, by omega, by simp, .nil, rfl, rfl, rfl, rfl⟩ ?_
  rintro σ β ω ⟨j, xs, tk, j1, j4, n1, hset, q0, q1, q5, q6⟩
  dsimp only at q0 q1 q5 q6
  have ex' : (xs.map Vl.d).length = xs.length := by simp
  try simp only [go_sem, reduceIte, Nat.reduceEqDiff, Nat.reduceAdd, Nat.reduceSub, Nat.reduceMul, Nat.reduceLT, Nat.reduceLeDiff, Nat.reducePow, Int.reduceToNat, Int.reduceLT, Int.reduceLE, Int.reduceEq, Int.reduceNe, Int.reduceAdd, Int.reduceSub, Int.reduceMul, Int.reduceNeg, q0, q1, q5, q6, el]
  refine cd_dec (fun g => ?_) (fun g => ?_)
  · obtain ⟨g, g4⟩ := g
    obtain ⟨x, hx, ex⟩ := Vl_at (l := l) (j := j) (by rw [el]; omega)
    have g1 := eq_true g
    have wj := wrap_i64 (x := (j : Int) + 1) (by omega) (by omega)
    have c1 : ((0 : Int) ≤ j) = True := eq_true (by omega)
    have hm := Made5_ok (G := G) x t ht (hi x (List.mem_of_getElem? hx))
    simp only [Vl.cells] at hm
    try simp only [go_sem, reduceIte, Nat.reduceEqDiff, Nat.reduceAdd, Nat.reduceSub, Nat.reduceMul, Nat.reduceLT, Nat.reduceLeDiff, Nat.reducePow, Int.reduceToNat, Int.reduceLT, Int.reduceLE, Int.reduceEq, Int.reduceNe, Int.reduceAdd, Int.reduceSub, Int.reduceMul, Int.reduceNeg, q0, q1, q5, q6, ex, g1, c1, el]
    refine cK_vx hm ?_
    rintro _ ⟨w, rfl, hw⟩
    obtain ⟨wn, wi, ws⟩ := w
    have N := trivial
    try simp only [go_sem, reduceIte, Nat.reduceEqDiff, Nat.reduceAdd, Nat.reduceSub, Nat.reduceMul, Nat.reduceLT, Nat.reduceLeDiff, Nat.reducePow, Int.reduceToNat, Int.reduceLT, Int.reduceLE, Int.reduceEq, Int.reduceNe, Int.reduceAdd, Int.reduceSub, Int.reduceMul, Int.reduceNeg, q0, q1, q5, q6, Vl.cells]
    refine new_any fun b1 hb1 => ?_
    generalize hβ : Heap.set _ b1 _ = β1
    have e1 : β1 b1 = some [.bool wn, .int .i64 wi, .str ws] := by rw [← hβ]; simp [Heap.set]
    clear hβ hb1
    try simp only [go_sem, reduceIte, Nat.reduceEqDiff, Nat.reduceAdd, Nat.reduceSub, Nat.reduceMul, Nat.reduceLT, Nat.reduceLeDiff, Nat.reducePow, Int.reduceToNat, Int.reduceLT, Int.reduceLE, Int.reduceEq, Int.reduceNe, Int.reduceAdd, Int.reduceSub, Int.reduceMul, Int.reduceNeg, q0, q1, q5, q6]
    refine vwq_loop (fun v => ∃ k : Nat, k ≤ xs.length ∧ (∀ a, 0 < k → xs[k - 1]? = some a → cmpV a (Vl.mk wn wi ws) < 0) ∧ v.σ 0 = .sl .none (l.map Vl.d) ∧ v.σ 1 = .int .i64 t ∧ v.σ 5 = .sl tk (xs.map Vl.d) ∧ v.σ 6 = .int .i64 j ∧ v.σ 7 = .pb b1 0 ∧ v.σ 8 = .int .i64 k ∧ v.β b1 = some [.bool wn, .int .i64 wi, .str ws]) (fun v => xs.length - (ival (v.σ 8)).toNat) ⟨0, by omega, fun a h _ => absurd h (by omega), rfl, rfl, rfl, rfl, rfl, rfl, e1⟩ ?_
    clear e1 q0 q1 q5 q6 σ β ω
    rintro σ β ω ⟨k, kn, hlow, q0, q1, q5, q6, q7, q8, e1⟩
    dsimp only at q0 q1 q5 q6 q7 q8 e1
    have wk := wrap_i64 (x := (k : Int) + 1) (by omega) (by omega)
    have c2 : ((0 : Int) ≤ k) = True := eq_true (by omega)
    have hT : (xs.map Vl.d).take k = (xs.take k).map Vl.d := by simp
    have hD : ((xs.map Vl.d).drop k).take (xs.length - k) = (xs.drop k).map Vl.d := by rw [← List.map_drop, List.take_of_length_le (by simp)]
    have hE : ((xs.take k).map Vl.d).map D.er = (xs.take k).map Vl.d := vl_er _
    have hE2 : ((xs.drop k).map Vl.d).map D.er = (xs.drop k).map Vl.d := vl_er _
    have vs3 : ∀ zs : List Vl, ∀ x ∈ zs.map Vl.d, x.cells.length = 3 := fun zs x hx => (vl_cells _ x hx).1
    have h3 := vs3 xs
    have hS : ∀ zs : List Vl, ∀ d ∈ zs.map Vl.d, d.cells.length = 3 ∧ d.solid = true := fun zs d hd => vl_cells _ d hd
    by_cases gk : (k : Int) < xs.length
    · obtain ⟨y, hy, ey⟩ := Vl_at (l := xs) (j := k) (by rw [ex']; exact gk)
      have gk' := eq_true gk
      have hc := refCompare_ok (G := G) y ⟨wn, wi, ws⟩
      simp only [Vl.d, Vl.cells] at hc
      try simp only [go_sem, reduceIte, Nat.reduceEqDiff, Nat.reduceAdd, Nat.reduceSub, Nat.reduceMul, Nat.reduceLT, Nat.reduceLeDiff, Nat.reducePow, Int.reduceToNat, Int.reduceLT, Int.reduceLE, Int.reduceEq, Int.reduceNe, Int.reduceAdd, Int.reduceSub, Int.reduceMul, Int.reduceNeg, q0, q1, q5, q6, q7, q8, e1, ey, gk', c2, ex']
      refine cE_vn hc ?_
      try simp only [go_sem, reduceIte, Nat.reduceEqDiff, Nat.reduceAdd, Nat.reduceSub, Nat.reduceMul, Nat.reduceLT, Nat.reduceLeDiff, Nat.reducePow, Int.reduceToNat, Int.reduceLT, Int.reduceLE, Int.reduceEq, Int.reduceNe, Int.reduceAdd, Int.reduceSub, Int.reduceMul, Int.reduceNeg, q0, q1, q5, q6, q7, q8, e1, ey, gk', c2, ex']
      refine cd_dec (fun g3 => ?_) (fun g3 => ?_)
      · try simp only [go_sem, reduceIte, Nat.reduceEqDiff, Nat.reduceAdd, Nat.reduceSub, Nat.reduceMul, Nat.reduceLT, Nat.reduceLeDiff, Nat.reducePow, Int.reduceToNat, Int.reduceLT, Int.reduceLE, Int.reduceEq, Int.reduceNe, Int.reduceAdd, Int.reduceSub, Int.reduceMul, Int.reduceNeg, q0, q1, q5, q6, q7, q8, e1, ey, gk', c2, ex', wk]
        refine ⟨⟨k + 1, by omega, fun a _ ha => ?_, rfl⟩, by omega⟩
        obtain rfl := Option.some.inj (hy.symm.trans (by simpa using ha))
        exact g3
      · try simp only [go_sem, reduceIte, Nat.reduceEqDiff, Nat.reduceAdd, Nat.reduceSub, Nat.reduceMul, Nat.reduceLT, Nat.reduceLeDiff, Nat.reducePow, Int.reduceToNat, Int.reduceLT, Int.reduceLE, Int.reduceEq, Int.reduceNe, Int.reduceAdd, Int.reduceSub, Int.reduceMul, Int.reduceNeg, q0, q1, q5, q6, q7, q8, e1, ey, gk', c2, ex', wk]
        cases wn
        rotate_left
        · try simp only [go_sem, reduceIte, Nat.reduceEqDiff, Nat.reduceAdd, Nat.reduceSub, Nat.reduceMul, Nat.reduceLT, Nat.reduceLeDiff, Nat.reducePow, Int.reduceToNat, Int.reduceLT, Int.reduceLE, Int.reduceEq, Int.reduceNe, Int.reduceAdd, Int.reduceSub, Int.reduceMul, Int.reduceNeg, q0, q1, q5, q6, q7, q8, e1, wj]
          exact ⟨⟨j + 1, xs, tk, by omega, by omega, by omega, hset, rfl, rfl⟩, by omega⟩
        try simp only [go_sem, reduceIte, Nat.reduceEqDiff, Nat.reduceAdd, Nat.reduceSub, Nat.reduceMul, Nat.reduceLT, Nat.reduceLeDiff, Nat.reducePow, Int.reduceToNat, Int.reduceLT, Int.reduceLE, Int.reduceEq, Int.reduceNe, Int.reduceAdd, Int.reduceSub, Int.reduceMul, Int.reduceNeg, q0, q1, q5, q6, q7, q8, e1, ey, gk', c2, ex', wk]
        refine cd_dec (fun g4 => ?_) (fun g4 => ?_)
        · try simp only [go_sem, reduceIte, Nat.reduceEqDiff, Nat.reduceAdd, Nat.reduceSub, Nat.reduceMul, Nat.reduceLT, Nat.reduceLeDiff, Nat.reducePow, Int.reduceToNat, Int.reduceLT, Int.reduceLE, Int.reduceEq, Int.reduceNe, Int.reduceAdd, Int.reduceSub, Int.reduceMul, Int.reduceNeg, q0, q1, q5, q6, q7, q8, e1, wj]
          exact ⟨⟨j + 1, xs, tk, by omega, by omega, by omega, hset, rfl, rfl⟩, by omega⟩
        have hput := SetOk.put (k := k) hset kn (VOk_bool _ hw rfl) hlow (fun b hb => by
          obtain rfl := Option.some.inj (hy.symm.trans hb)
          refine ⟨g3, fun e => g4 ?_⟩
          rw [e]
          exact ⟨rfl, rfl, rfl⟩)
        try simp only [go_sem, reduceIte, Nat.reduceEqDiff, Nat.reduceAdd, Nat.reduceSub, Nat.reduceMul, Nat.reduceLT, Nat.reduceLeDiff, Nat.reducePow, Int.reduceToNat, Int.reduceLT, Int.reduceLE, Int.reduceEq, Int.reduceNe, Int.reduceAdd, Int.reduceSub, Int.reduceMul, Int.reduceNeg, q0, q1, q5, q6, q7, q8, e1, ey, gk', c2, ex', wk, wj]
        rw [hT, hE]
        refine ⟨⟨by omega, h3⟩, hS _, by simp; omega, fun t1 _ => ⟨vs3 _, by simp; omega, fun t2 _ => ?_⟩⟩
        rw [hD, hE2]
        refine ⟨⟨by omega, by omega, h3⟩, hS _, fun z hz => vs3 (xs.take k ++ [⟨false, wi, ws⟩]) z (by simpa [Vl.d, Vl.cells] using hz), by simp; omega, fun t3 _ => ⟨⟨j + 1, _, .live t3 3, by omega, by omega, ?_, hput, ?_, rfl⟩, by omega⟩⟩
        · simp; omega
        · simp [Vl.d, Vl.cells]
    · have gk' := eq_false gk
      try simp only [go_sem, reduceIte, Nat.reduceEqDiff, Nat.reduceAdd, Nat.reduceSub, Nat.reduceMul, Nat.reduceLT, Nat.reduceLeDiff, Nat.reducePow, Int.reduceToNat, Int.reduceLT, Int.reduceLE, Int.reduceEq, Int.reduceNe, Int.reduceAdd, Int.reduceSub, Int.reduceMul, Int.reduceNeg, q0, q1, q5, q6, q7, q8, e1, gk', c2, ex']
      cases wn
      rotate_left
      · try simp only [go_sem, reduceIte, Nat.reduceEqDiff, Nat.reduceAdd, Nat.reduceSub, Nat.reduceMul, Nat.reduceLT, Nat.reduceLeDiff, Nat.reducePow, Int.reduceToNat, Int.reduceLT, Int.reduceLE, Int.reduceEq, Int.reduceNe, Int.reduceAdd, Int.reduceSub, Int.reduceMul, Int.reduceNeg, q0, q1, q5, q6, q7, q8, e1, wj]
        exact ⟨⟨j + 1, xs, tk, by omega, by omega, by omega, hset, rfl, rfl⟩, by omega⟩
      have hput := SetOk.put (k := k) hset kn (VOk_bool _ hw rfl) hlow (fun b hb => by
        have := (List.getElem?_eq_some_iff.1 hb).1; omega)
      try simp only [go_sem, reduceIte, Nat.reduceEqDiff, Nat.reduceAdd, Nat.reduceSub, Nat.reduceMul, Nat.reduceLT, Nat.reduceLeDiff, Nat.reducePow, Int.reduceToNat, Int.reduceLT, Int.reduceLE, Int.reduceEq, Int.reduceNe, Int.reduceAdd, Int.reduceSub, Int.reduceMul, Int.reduceNeg, q0, q1, q5, q6, q7, q8, e1, gk', c2, ex', wk, wj]
      rw [hT, hE]
      refine ⟨⟨by omega, h3⟩, hS _, by simp; omega, fun t1 _ => ⟨vs3 _, by simp; omega, fun t2 _ => ?_⟩⟩
      rw [hD, hE2]
      refine ⟨⟨by omega, by omega, h3⟩, hS _, fun z hz => vs3 (xs.take k ++ [⟨false, wi, ws⟩]) z (by simpa [Vl.d, Vl.cells] using hz), by simp; omega, fun t3 _ => ⟨⟨j + 1, _, .live t3 3, by omega, by omega, ?_, hput, ?_, rfl⟩, by omega⟩⟩
      · simp; omega
      · simp [Vl.d, Vl.cells]
  · try simp only [go_sem, reduceIte, Nat.reduceEqDiff, Nat.reduceAdd, Nat.reduceSub, Nat.reduceMul, Nat.reduceLT, Nat.reduceLeDiff, Nat.reducePow, Int.reduceToNat, Int.reduceLT, Int.reduceLE, Int.reduceEq, Int.reduceNe, Int.reduceAdd, Int.reduceSub, Int.reduceMul, Int.reduceNeg, q0, q1, q5, q6]
    exact finK_drop ⟨_, ⟨xs, by simp [D.er, D.er1, vl_er], by omega, hset⟩, rfl, rfl, rfl⟩
structure Vq (fs : List Fd) (n : Nat) (q : Pr) : Prop where
  vp : Vp fs (n + 1) q
  pi : ∀ s ∈ subs q, PI s
  few : (subs q).length ≤ 4 ^ n
theorem Vq.leaf {fs : List Fd} {n : Nat} {q : Pr} (h : q.kids = []) (hf : FormP q) (hp : atomOk fs q = true) (hi : PI q) : Vq fs n q := by
  refine ⟨.leaf h hf hp, fun s hs => ?_, ?_⟩
  · rw [subs_leaf h, List.mem_singleton] at hs; subst hs; exact hi
  · rw [subs_leaf h]; exact Nat.one_le_pow _ _ (by omega)
theorem subsL_few {n : Nat} {fs : List Fd} : ∀ {l : List Pr}, (∀ k ∈ l, Vq fs n k) → (subsL l).length ≤ l.length * 4 ^ n
  | [], _ => by rw [subsL_nil]; simp
  | a :: l, h => by
    have h1 := (h a (by simp)).few
    have h2 := subsL_few (l := l) fun k hk => h k (by simp [hk])
    rw [subsL_cons, List.length_append, List.length_cons, Nat.add_mul]; omega
theorem Vq.node {fs : List Fd} {n : Nat} {q : Pr} (hk : ∀ k ∈ q.kids, Vq fs n k) (h3 : q.kids.length ≤ 3) (hf : FormP q) (hp : atomOk fs q = true) (hi : PI q) : Vq fs (n + 1) q := by
  refine ⟨.node (fun k h => (hk k h).vp) hf hp, fun s hs => ?_, ?_⟩
  · rw [subs_eq] at hs
    rcases List.mem_cons.1 hs with rfl | hs
    · exact hi
    · rw [subsL_flat] at hs
      obtain ⟨k, hk', hs'⟩ := List.mem_flatMap.1 hs
      exact (hk k hk').pi s hs'
  · have h1 := subsL_few hk
    have h2 : q.kids.length * 4 ^ n ≤ 3 * 4 ^ n := Nat.mul_le_mul_right _ h3
    have h4 : 1 ≤ 4 ^ n := Nat.one_le_pow _ _ (by omega)
    rw [subs_eq, List.length_cons, Nat.pow_succ]; omega
theorem PI_0 (o : Int) (l : List Pr) : PI (.mk o 0 0 0 [] ByteArray.empty l) := ⟨I64'_0, I64'_0, I64'_0, by simp [Pr.set]⟩
theorem Vq.nul {fs : List Fd} {n : Nat} : Vq fs n (.mk 0 0 0 0 [] ByteArray.empty []) := .leaf rfl nul_form (fit0 rfl) (PI_0 _ _)
def isVq (fs : List Fd) (n : Nat) (d : D) : Prop := ∃ q : Pr, d = .agg q.cells ∧ Vq fs n q
theorem isVq_any (fs : List Fd) (n : Nat) : ∃ d, isVq fs n d := ⟨_, _, rfl, .nul⟩
theorem asc_uniq : ∀ {l : List Fd} {a b : Fd}, l.Pairwise (fun a b => a.id < b.id) → a ∈ l → b ∈ l → a.id = b.id → a = b
  | [], _, _, _, h, _, _ => by cases h
  | x :: l, a, b, h, ha, hb, e => by
    rw [List.pairwise_cons] at h
    rcases List.mem_cons.1 ha with e1 | ha
    · rcases List.mem_cons.1 hb with e2 | hb
      · rw [e1, e2]
      · have := h.1 b hb; rw [← e1] at this; omega
    · rcases List.mem_cons.1 hb with e2 | hb
      · have := h.1 a ha; rw [← e2] at this; omega
      · exact asc_uniq h.2 ha hb e
theorem leaf_field {fs : List Fd} {nx id : Int} (h : SOk fs nx) (hi : id ∈ leavesF fs) : ∃ f, findFd fs id = some f ∧ f.id = id ∧ LvOk fs f ∧ I64' id := by
  obtain ⟨f, hf, rfl⟩ := List.mem_map.1 hi
  obtain ⟨hm, h6⟩ := List.mem_filter.1 hf
  have h6 : ¬ f.type = 6 := by simpa using h6
  have hfind : fs.find? (fun g => decide (g.id = f.id)) = some f := by
    cases hc : fs.find? (fun g => decide (g.id = f.id)) with
    | none => exact absurd (List.find?_eq_none.1 hc f hm) (by simp)
    | some g =>
      have h1 := List.mem_of_find?_eq_some hc
      have h2 : g.id = f.id := by simpa using List.find?_some hc
      rw [asc_uniq h.asc h1 hm h2]
  have ht := h.ty f hm
  have hid := h.ids f hm
  have hhi := h.hi
  refine ⟨f, by unfold findFd; exact hfind, rfl, ⟨?_, by simp [isTy]; omega⟩, by constructor <;> omega⟩
  unfold typR typeOf
  rw [hfind]; rfl
set_option maxRecDepth 100000 in
set_option maxHeartbeats 8000000 in
theorem Pred9_step (fs : List Fd) (nx : Int) (h : SOk fs nx) (n : Nat) (hn : n ≤ 7) (p : Pr) (hI : PI p) (z3 : p.kids.length ≤ 1048576) (ih : ∀ m, n = m + 1 → ∀ k ∈ p.kids, VX P G 115 [.agg [.sl .none (fs.map fdD), .int .i64 nx], .agg k.cells, .int .i64 (m : Int)] (isVq fs m)) :
    VX P G 115 [.agg [.sl .none (fs.map fdD), .int .i64 nx], .agg p.cells, .int .i64 (n : Int)] (isVq fs n) := by
  have hx : VX P G 154 [.int .i64 p.op, .int .i64 8] (isIx 8) := mod9_ok p.op 8 (by omega) (by omega)
  have hlv := Leaves_ok (G := G) fs nx h.len
  obtain ⟨L, hL⟩ : ∃ L, leavesF fs = L := ⟨_, rfl⟩
  rw [hL] at hlv
  have hLl : L.length ≤ 64 := by rw [← hL, leavesF, List.length_map]; exact Nat.le_trans (List.length_filter_le _ _) h.len
  have hlr : ((L.map iD).length : Int) = L.length := by rw [List.length_map]
  simp only [Pr.cells]
  unfold VX
  refine VC.ofc (fun | 8 => [(0, []), (1, [10]), (2, []), (3, []), (4, []), (5, []), (6, []), (7, []), (8, []), (9, []), (10, []), (11, []), (12, []), (13, []), (14, [])] | 99999999 => [(0, [0, 1, 2, 3, 4, 6, 7, 8, 9, 10, 11, 12, 14, 25, 36, 54, 58, 73, 90, 104, 110])] | _ => []) [.cell 6 40] mixed Tryz.func115 rfl rfl rfl rfl (by decide +kernel) (by simp) ?_
  simp only [go_sem, reduceIte, Nat.reduceEqDiff, Nat.reduceAdd, Nat.reduceSub, Nat.reduceMul, Nat.reduceLT, Nat.reduceLeDiff, Nat.reducePow, Int.reduceToNat, Int.reduceLT, Int.reduceLE, Int.reduceEq, Int.reduceNe, Int.reduceAdd, Int.reduceSub, Int.reduceMul, Int.reduceNeg]
  intro b3
  generalize hβ : Heap.set Heap.nil b3 _ = β0
  have e3 := hit_set hβ
  clear hβ
  have N := trivial
  try simp only [go_sem, reduceIte, Nat.reduceEqDiff, Nat.reduceAdd, Nat.reduceSub, Nat.reduceMul, Nat.reduceLT, Nat.reduceLeDiff, Nat.reducePow, Int.reduceToNat, Int.reduceLT, Int.reduceLE, Int.reduceEq, Int.reduceNe, Int.reduceAdd, Int.reduceSub, Int.reduceMul, Int.reduceNeg, e3]
  refine new_any fun b4 hb4 => ?_
  have N := And.intro N (box_ne hb4 e3)
  generalize hβ_ : Heap.set _ b4 _ = β_
  have e4 := hit_set hβ_
  have e3 := keep_new hβ_ hb4 e3
  clear hβ_ hb4
  try simp only [go_sem, reduceIte, Nat.reduceEqDiff, Nat.reduceAdd, Nat.reduceSub, Nat.reduceMul, Nat.reduceLT, Nat.reduceLeDiff, Nat.reducePow, Int.reduceToNat, Int.reduceLT, Int.reduceLE, Int.reduceEq, Int.reduceNe, Int.reduceAdd, Int.reduceSub, Int.reduceMul, Int.reduceNeg, N, e3, e4]
  refine new_any fun b6 hb6 => ?_
  have N := And.intro N (box_ne hb6 e3)
  have N := And.intro N (box_ne hb6 e4)
  generalize hβ_ : Heap.set _ b6 _ = β_
  have e6 := hit_set hβ_
  have e3 := keep_new hβ_ hb6 e3
  have e4 := keep_new hβ_ hb6 e4
  clear hβ_ hb6
  try simp only [go_sem, reduceIte, Nat.reduceEqDiff, Nat.reduceAdd, Nat.reduceSub, Nat.reduceMul, Nat.reduceLT, Nat.reduceLeDiff, Nat.reducePow, Int.reduceToNat, Int.reduceLT, Int.reduceLE, Int.reduceEq, Int.reduceNe, Int.reduceAdd, Int.reduceSub, Int.reduceMul, Int.reduceNeg, N, e3, e4, e6]
  (first | refine cK_vn (hlv) ?_ | refine cE_vn (hlv) ?_)
  try simp only [go_sem, reduceIte, Nat.reduceEqDiff, Nat.reduceAdd, Nat.reduceSub, Nat.reduceMul, Nat.reduceLT, Nat.reduceLeDiff, Nat.reducePow, Int.reduceToNat, Int.reduceLT, Int.reduceLE, Int.reduceEq, Int.reduceNe, Int.reduceAdd, Int.reduceSub, Int.reduceMul, Int.reduceNeg, N, e3, e4, e6]
  refine cK_vx hx ?_
  rintro _ ⟨r, rfl, hr⟩
  try simp only [go_sem, reduceIte, Nat.reduceEqDiff, Nat.reduceAdd, Nat.reduceSub, Nat.reduceMul, Nat.reduceLT, Nat.reduceLeDiff, Nat.reducePow, Int.reduceToNat, Int.reduceLT, Int.reduceLE, Int.reduceEq, Int.reduceNe, Int.reduceAdd, Int.reduceSub, Int.reduceMul, Int.reduceNeg, N, e3, e4, e6]
  refine cd_dec (fun g => ?_) (fun g => ?_)
  · try simp only [go_sem, reduceIte, Nat.reduceEqDiff, Nat.reduceAdd, Nat.reduceSub, Nat.reduceMul, Nat.reduceLT, Nat.reduceLeDiff, Nat.reducePow, Int.reduceToNat, Int.reduceLT, Int.reduceLE, Int.reduceEq, Int.reduceNe, Int.reduceAdd, Int.reduceSub, Int.reduceMul, Int.reduceNeg, N, e3, e4, e6]
    refine new_any fun b9 hb9 => ?_
    have N := And.intro N (box_ne hb9 e3)
    have N := And.intro N (box_ne hb9 e4)
    have N := And.intro N (box_ne hb9 e6)
    generalize hβ_ : Heap.set _ b9 _ = β_
    have e9 := hit_set hβ_
    have e3 := keep_new hβ_ hb9 e3
    have e4 := keep_new hβ_ hb9 e4
    have e6 := keep_new hβ_ hb9 e6
    clear hβ_ hb9
    try simp only [go_sem, reduceIte, Nat.reduceEqDiff, Nat.reduceAdd, Nat.reduceSub, Nat.reduceMul, Nat.reduceLT, Nat.reduceLeDiff, Nat.reducePow, Int.reduceToNat, Int.reduceLT, Int.reduceLE, Int.reduceEq, Int.reduceNe, Int.reduceAdd, Int.reduceSub, Int.reduceMul, Int.reduceNeg, N, e3, e4, e6, e9]
    obtain ⟨m, rfl⟩ : ∃ m, n = m + 1 := ⟨n - 1, by omega⟩
    have wd : IntKind.i64.wrap (((m + 1 : Nat) : Int) - 1) = m := by rw [wrap_i64 (by omega) (by omega)]; omega
    refine vwq_loop (fun v => ∃ (j : Nat) (ks : List Pr) (tk : Tk), j ≤ p.kids.length ∧ j ≤ 3 ∧ ks.length = j ∧ (∀ k ∈ ks, Vq fs m k) ∧ TW 7 tk v.ω ∧ v.σ 2 = .int .i64 ((m + 1 : Nat) : Int) ∧ v.σ 3 = .pb b3 0 ∧ v.σ 4 = .pb b4 0 ∧ v.σ 6 = .pb b6 0 ∧ v.σ 8 = .int .i64 r ∧ v.σ 9 = .pb b9 0 ∧ v.σ 10 = .int .i64 j ∧
      v.β b3 = some [.sl .none (fs.map fdD), .int .i64 nx] ∧ v.β b4 = some [.int .i64 p.op, .int .i64 p.id, .int .i64 p.lo, .int .i64 p.hi, .sl .none (p.set.map Vl.d), .str p.text, .sl .none (p.kids.map Pr.d)] ∧ v.β b6 = some [.int .i64 0, .int .i64 0, .int .i64 0, .int .i64 0, .sl .full [], .str ByteArray.empty, .sl .full []] ∧ v.β b9 = some [.int .i64 r, .int .i64 0, .int .i64 0, .int .i64 0, .sl .full [], .str ByteArray.empty, .sl tk (ks.map Pr.d)]) (fun v => p.kids.length - (ival (v.σ 10)).toNat) ⟨0, [], .full, by omega, by omega, rfl, by simp, TW.full 7, rfl, rfl, rfl, rfl, rfl, rfl, rfl, e3, e4, e6, e9⟩ ?_
    clear e3 e4 e6 e9
    rintro σ β ω ⟨j, ks, tk, j1, j2, j3, hks, hw, q2, q3, q4, q6, q8, q9, q10, e3, e4, e6, e9⟩
    dsimp only at hw q2 q3 q4 q6 q8 q9 q10 e3 e4 e6 e9
    have ho := hw.ok
    have hg := hw.gone
    try simp only [go_sem, reduceIte, Nat.reduceEqDiff, Nat.reduceAdd, Nat.reduceSub, Nat.reduceMul, Nat.reduceLT, Nat.reduceLeDiff, Nat.reducePow, Int.reduceToNat, Int.reduceLT, Int.reduceLE, Int.reduceEq, Int.reduceNe, Int.reduceAdd, Int.reduceSub, Int.reduceMul, Int.reduceNeg, q2, q3, q4, q6, q8, q9, q10, e3, e4, e6, e9]
    refine cd_dec (fun gg => ?_) (fun gg => ?_)
    · obtain ⟨gg, gg2⟩ := gg
      obtain ⟨k, hk, ek⟩ := Pr_at (l := p.kids) (j := j) gg
      have g1 := eq_true gg
      rw [List.length_map] at gg
      have wj := wrap_i64 (x := (j : Int) + 1) (by omega) (by omega)
      have c1 : ((0 : Int) ≤ j) = True := eq_true (by omega)
      have hk' := ih m rfl k (List.mem_of_getElem? hk)
      simp only [Pr.cells] at hk'
      try simp only [go_sem, reduceIte, Nat.reduceEqDiff, Nat.reduceAdd, Nat.reduceSub, Nat.reduceMul, Nat.reduceLT, Nat.reduceLeDiff, Nat.reducePow, Int.reduceToNat, Int.reduceLT, Int.reduceLE, Int.reduceEq, Int.reduceNe, Int.reduceAdd, Int.reduceSub, Int.reduceMul, Int.reduceNeg, N, q2, q3, q4, q6, q8, q9, q10, e3, e4, e6, e9, ek, g1, c1, wd]
      refine cE_vx hk' (isVq_any fs m) ?_
      rintro _ ⟨q, rfl, qL⟩
      try simp only [go_sem, reduceIte, Nat.reduceEqDiff, Nat.reduceAdd, Nat.reduceSub, Nat.reduceMul, Nat.reduceLT, Nat.reduceLeDiff, Nat.reducePow, Int.reduceToNat, Int.reduceLT, Int.reduceLE, Int.reduceEq, Int.reduceNe, Int.reduceAdd, Int.reduceSub, Int.reduceMul, Int.reduceNeg, N, q2, q3, q4, q6, q8, q9, q10, e3, e4, e6, e9, ek, g1, c1, wd, ho, hg, Pr.cells]
      refine ⟨fun x hx => by obtain ⟨y, _, rfl⟩ := List.mem_map.1 hx; rw [y.d_eq]; rfl, by rw [List.length_map]; omega, fun t' _ => ⟨by simp [rdAdd], ⟨j + 1, ks ++ [q], .live t' 7, ?_⟩, by omega⟩⟩
      refine ⟨by omega, by omega, by simp; omega, fun k hk => ?_, TW.live 7 t', by rw [wj]; rfl, by simp [Pr.cells, Pr.d_eq]⟩
      rcases List.mem_append.1 hk with hk | hk
      · exact hks k hk
      · simp at hk; subst hk; exact qL
    · try simp only [go_sem, reduceIte, Nat.reduceEqDiff, Nat.reduceAdd, Nat.reduceSub, Nat.reduceMul, Nat.reduceLT, Nat.reduceLeDiff, Nat.reducePow, Int.reduceToNat, Int.reduceLT, Int.reduceLE, Int.reduceEq, Int.reduceNe, Int.reduceAdd, Int.reduceSub, Int.reduceMul, Int.reduceNeg, N, q2, q3, q4, q6, q8, q9, q10, e3, e4, e6, e9]
      refine cd_dec (fun g7 => ?_) (fun g7 => ?_)
      · try simp only [go_sem, reduceIte, Nat.reduceEqDiff, Nat.reduceAdd, Nat.reduceSub, Nat.reduceMul, Nat.reduceLT, Nat.reduceLeDiff, Nat.reducePow, Int.reduceToNat, Int.reduceLT, Int.reduceLE, Int.reduceEq, Int.reduceNe, Int.reduceAdd, Int.reduceSub, Int.reduceMul, Int.reduceNeg, N, q2, q3, q4, q6, q8, q9, q10, e3, e4, e6, e9]
        refine cd_dec (fun g8 => ?_) (fun g8 => ?_)
        · try simp only [go_sem, reduceIte, Nat.reduceEqDiff, Nat.reduceAdd, Nat.reduceSub, Nat.reduceMul, Nat.reduceLT, Nat.reduceLeDiff, Nat.reducePow, Int.reduceToNat, Int.reduceLT, Int.reduceLE, Int.reduceEq, Int.reduceNe, Int.reduceAdd, Int.reduceSub, Int.reduceMul, Int.reduceNeg, N, q2, q3, q4, q6, q8, q9, q10, e3, e4, e6, e9]
          refine finK_drop ⟨_, ⟨.mk r 0 0 0 [] ByteArray.empty [.mk 0 0 0 0 [] ByteArray.empty []], ?_, .node (fun k hk => by simp only [Pr.kids, List.mem_singleton] at hk; subst hk; exact .nul) (by simp [Pr.kids]) (formK r _ (by omega) (by simp) fun _ => rfl) (fit0 (by simp [isAt]; omega)) (PI_0 _ _)⟩, rfl, rfl, rfl⟩
          simp only [D.er, D.er1, Pr.cells, Pr.op, Pr.id, Pr.lo, Pr.hi, Pr.set, Pr.text, Pr.kids, List.map_cons, List.map_nil, Pr.d_eq]
        · try simp only [go_sem, reduceIte, Nat.reduceEqDiff, Nat.reduceAdd, Nat.reduceSub, Nat.reduceMul, Nat.reduceLT, Nat.reduceLeDiff, Nat.reducePow, Int.reduceToNat, Int.reduceLT, Int.reduceLE, Int.reduceEq, Int.reduceNe, Int.reduceAdd, Int.reduceSub, Int.reduceMul, Int.reduceNeg, N, q2, q3, q4, q6, q8, q9, q10, e3, e4, e6, e9]
          rw [List.length_map] at g8
          refine ⟨⟨by rw [List.length_map]; omega, fun x hx => by obtain ⟨y, _, rfl⟩ := List.mem_map.1 hx; rw [y.d_eq]; rfl⟩, ?_⟩
          refine finK_drop ⟨_, ⟨.mk r 0 0 0 [] ByteArray.empty (ks.take 1), ?_, .node (fun k hk => hks k (List.mem_of_mem_take hk)) (by simp only [Pr.kids, List.length_take]; omega) (formK r _ (by omega) (by rw [List.length_take]; omega) (fun _ => by rw [List.length_take]; omega)) (fit0 (by simp [isAt]; omega)) (PI_0 _ _)⟩, rfl, rfl, rfl⟩
          simp [D.er, D.er1, Pr.cells, Pr.op, Pr.id, Pr.lo, Pr.hi, Pr.set, Pr.text, Pr.kids]
      · try simp only [go_sem, reduceIte, Nat.reduceEqDiff, Nat.reduceAdd, Nat.reduceSub, Nat.reduceMul, Nat.reduceLT, Nat.reduceLeDiff, Nat.reducePow, Int.reduceToNat, Int.reduceLT, Int.reduceLE, Int.reduceEq, Int.reduceNe, Int.reduceAdd, Int.reduceSub, Int.reduceMul, Int.reduceNeg, N, q2, q3, q4, q6, q8, q9, q10, e3, e4, e6, e9]
        exact finK_drop ⟨_, ⟨.mk r 0 0 0 [] ByteArray.empty ks, by simp [D.er, D.er1, Pr.cells, Pr.op, Pr.id, Pr.lo, Pr.hi, Pr.set, Pr.text, Pr.kids], .node hks (by rw [j3.symm] at j2; exact j2) (formK r ks (by omega) (by omega) (by omega)) (fit0 (by simp [isAt]; omega)) (PI_0 _ _)⟩, rfl, rfl, rfl⟩
  · try simp only [go_sem, reduceIte, Nat.reduceEqDiff, Nat.reduceAdd, Nat.reduceSub, Nat.reduceMul, Nat.reduceLT, Nat.reduceLeDiff, Nat.reducePow, Int.reduceToNat, Int.reduceLT, Int.reduceLE, Int.reduceEq, Int.reduceNe, Int.reduceAdd, Int.reduceSub, Int.reduceMul, Int.reduceNeg, N, e3, e4, e6, hlr]
    refine cd_dec (fun g1 => ?_) (fun g1 => ?_)
    · try simp only [go_sem, reduceIte, Nat.reduceEqDiff, Nat.reduceAdd, Nat.reduceSub, Nat.reduceMul, Nat.reduceLT, Nat.reduceLeDiff, Nat.reducePow, Int.reduceToNat, Int.reduceLT, Int.reduceLE, Int.reduceEq, Int.reduceNe, Int.reduceAdd, Int.reduceSub, Int.reduceMul, Int.reduceNeg, N, e3, e4, e6, hlr]
      exact finK_drop ⟨_, ⟨.mk 0 0 0 0 [] ByteArray.empty [], rfl, .nul⟩, rfl, rfl, rfl⟩
    have zl1 : 0 < L.length := by omega
    try simp only [go_sem, reduceIte, Nat.reduceEqDiff, Nat.reduceAdd, Nat.reduceSub, Nat.reduceMul, Nat.reduceLT, Nat.reduceLeDiff, Nat.reducePow, Int.reduceToNat, Int.reduceLT, Int.reduceLE, Int.reduceEq, Int.reduceNe, Int.reduceAdd, Int.reduceSub, Int.reduceMul, Int.reduceNeg, N, e3, e4, e6, hlr]
    refine cK_vx (mod9_ok p.id L.length zl1 (by omega)) ?_
    rintro _ ⟨i, rfl, hi⟩
    have ei := iD_at (l := L) (j := i) hi
    have hmem : L.getD i 0 ∈ leavesF fs := by
      rw [hL]; simp [List.getD, hi]
    obtain ⟨f, hf1, hf2, hf3, hf4⟩ := leaf_field h hmem
    generalize L.getD i 0 = id at ei hmem hf1 hf2 hf4
    have hfd := Field_ok (G := G) fs nx id (by have := h.len; omega)
    rw [hf1] at hfd
    simp only [orF, Option.getD_some, Option.isSome_some, fdC] at hfd
    have c1 : ((0 : Int) ≤ i) = True := eq_true (by omega)
    have c2 : ((i : Int) < L.length) = True := eq_true (by omega)
    have hset := set9_ok (G := G) p.set f.type hf3.2 (fun v hv => hI.set v hv)
    try simp only [go_sem, reduceIte, Nat.reduceEqDiff, Nat.reduceAdd, Nat.reduceSub, Nat.reduceMul, Nat.reduceLT, Nat.reduceLeDiff, Nat.reducePow, Int.reduceToNat, Int.reduceLT, Int.reduceLE, Int.reduceEq, Int.reduceNe, Int.reduceAdd, Int.reduceSub, Int.reduceMul, Int.reduceNeg, N, e3, e4, e6, hlr, c1, c2, ei]
    refine cK_vn hfd ?_
    try simp only [go_sem, reduceIte, Nat.reduceEqDiff, Nat.reduceAdd, Nat.reduceSub, Nat.reduceMul, Nat.reduceLT, Nat.reduceLeDiff, Nat.reducePow, Int.reduceToNat, Int.reduceLT, Int.reduceLE, Int.reduceEq, Int.reduceNe, Int.reduceAdd, Int.reduceSub, Int.reduceMul, Int.reduceNeg, N, e3, e4, e6, hlr]
    refine new_any fun b12 hb12 => ?_
    have N := And.intro N (box_ne hb12 e3)
    have N := And.intro N (box_ne hb12 e4)
    have N := And.intro N (box_ne hb12 e6)
    generalize hβ_ : Heap.set _ b12 _ = β_
    have e12 := hit_set hβ_
    have e3 := keep_new hβ_ hb12 e3
    have e4 := keep_new hβ_ hb12 e4
    have e6 := keep_new hβ_ hb12 e6
    clear hβ_ hb12
    try simp only [go_sem, reduceIte, Nat.reduceEqDiff, Nat.reduceAdd, Nat.reduceSub, Nat.reduceMul, Nat.reduceLT, Nat.reduceLeDiff, Nat.reducePow, Int.reduceToNat, Int.reduceLT, Int.reduceLE, Int.reduceEq, Int.reduceNe, Int.reduceAdd, Int.reduceSub, Int.reduceMul, Int.reduceNeg, N, e3, e4, e6, e12]
    refine cd_dec (fun g4 => ?_) (fun g4 => ?_)
    · try simp only [go_sem, reduceIte, Nat.reduceEqDiff, Nat.reduceAdd, Nat.reduceSub, Nat.reduceMul, Nat.reduceLT, Nat.reduceLeDiff, Nat.reducePow, Int.reduceToNat, Int.reduceLT, Int.reduceLE, Int.reduceEq, Int.reduceNe, Int.reduceAdd, Int.reduceSub, Int.reduceMul, Int.reduceNeg, N, e3, e4, e6, e12]
      subst hf2
      exact finK_drop ⟨_, ⟨.mk 4 f.id 0 0 [] ByteArray.empty [], rfl, .leaf rfl (form4 _) (atom_of hf3 (by unfold fitsF; rw [hf3.2]; rfl)) ⟨hf4, I64'_0, I64'_0, by simp [Pr.set]⟩⟩, rfl, rfl, rfl⟩
    try simp only [go_sem, reduceIte, Nat.reduceEqDiff, Nat.reduceAdd, Nat.reduceSub, Nat.reduceMul, Nat.reduceLT, Nat.reduceLeDiff, Nat.reducePow, Int.reduceToNat, Int.reduceLT, Int.reduceLE, Int.reduceEq, Int.reduceNe, Int.reduceAdd, Int.reduceSub, Int.reduceMul, Int.reduceNeg, N, e3, e4, e6, e12]
    refine cK_vx hset ?_
    rintro _ ⟨m, rfl, hm, hs⟩
    have em : (m.map Vl.d).length = m.length := by simp
    try simp only [go_sem, reduceIte, Nat.reduceEqDiff, Nat.reduceAdd, Nat.reduceSub, Nat.reduceMul, Nat.reduceLT, Nat.reduceLeDiff, Nat.reducePow, Int.reduceToNat, Int.reduceLT, Int.reduceLE, Int.reduceEq, Int.reduceNe, Int.reduceAdd, Int.reduceSub, Int.reduceMul, Int.reduceNeg, N, e3, e4, e6, e12, em]
    refine cd_dec (fun g2 => ?_) (fun g2 => ?_)
    · try simp only [go_sem, reduceIte, Nat.reduceEqDiff, Nat.reduceAdd, Nat.reduceSub, Nat.reduceMul, Nat.reduceLT, Nat.reduceLeDiff, Nat.reducePow, Int.reduceToNat, Int.reduceLT, Int.reduceLE, Int.reduceEq, Int.reduceNe, Int.reduceAdd, Int.reduceSub, Int.reduceMul, Int.reduceNeg, N, e3, e4, e6, e12]
      subst hf2
      refine finK_drop ⟨_, ⟨.mk 2 f.id 0 0 m ByteArray.empty [], rfl, .leaf rfl (form2 _ _ hm fun v hv => valOk_200 (hs.ok v hv).1) (atom_of hf3 ?_) ⟨hf4, I64'_0, I64'_0, fun v hv => (hs.ok v hv).2.2⟩⟩, rfl, rfl, rfl⟩
      have hpos : 0 < m.length := by omega
      have hw : m.any (wrongV f.type) = false := by
        rw [List.any_eq_false]; intro v hv
        obtain ⟨a, b, _⟩ := hs.ok v hv
        simp [wrongV, a, b]
      unfold fitsF
      rw [hf3.2, show (Pr.mk 2 f.id 0 0 m ByteArray.empty []).op = 2 from rfl, show (Pr.mk 2 f.id 0 0 m ByteArray.empty []).set = m from rfl, hs.inc, hw]
      simp [hpos]
    try simp only [go_sem, reduceIte, Nat.reduceEqDiff, Nat.reduceAdd, Nat.reduceSub, Nat.reduceMul, Nat.reduceLT, Nat.reduceLeDiff, Nat.reducePow, Int.reduceToNat, Int.reduceLT, Int.reduceLE, Int.reduceEq, Int.reduceNe, Int.reduceAdd, Int.reduceSub, Int.reduceMul, Int.reduceNeg, N, e3, e4, e6, e12]
    refine cd_dec (fun g3 => ?_) (fun g3 => ?_)
    · try simp only [go_sem, reduceIte, Nat.reduceEqDiff, Nat.reduceAdd, Nat.reduceSub, Nat.reduceMul, Nat.reduceLT, Nat.reduceLeDiff, Nat.reducePow, Int.reduceToNat, Int.reduceLT, Int.reduceLE, Int.reduceEq, Int.reduceNe, Int.reduceAdd, Int.reduceSub, Int.reduceMul, Int.reduceNeg, N, e3, e4, e6, e12]
      subst hf2
      refine ⟨⟨by split <;> omega, by split <;> omega⟩, finK_drop ⟨_, ⟨.mk 3 f.id 0 0 [] (p.text.extract 0 ((if (3 : Int) < (p.text.size : Nat) then (3 : Int) else (p.text.size : Nat)).toNat)) [], rfl, .leaf rfl (form3 _ _ ?_) (atom_of hf3 ?_) ⟨hf4, I64'_0, I64'_0, by simp [Pr.set]⟩⟩, rfl, rfl, rfl⟩⟩
      · rw [ByteArray.size_extract]; split <;> omega
      · unfold fitsF
        rw [hf3.2]
        simp [Pr.op, g3]
    try simp only [go_sem, reduceIte, Nat.reduceEqDiff, Nat.reduceAdd, Nat.reduceSub, Nat.reduceMul, Nat.reduceLT, Nat.reduceLeDiff, Nat.reducePow, Int.reduceToNat, Int.reduceLT, Int.reduceLE, Int.reduceEq, Int.reduceNe, Int.reduceAdd, Int.reduceSub, Int.reduceMul, Int.reduceNeg, N, e3, e4, e6, e12]
    subst hf2
    refine finK_drop ⟨_, ⟨.mk 1 f.id _ _ [] ByteArray.empty [], rfl, .leaf rfl (form1 _ _ _) (atom_of hf3 ?_) ⟨hf4, ?_, ?_, by simp [Pr.set]⟩⟩, rfl, rfl, rfl⟩
    · unfold fitsF
      rw [hf3.2]
      simp [Pr.op, g3]
    · show I64' (if p.hi < p.lo then p.hi else p.lo)
      split
      · exact hI.hi
      · exact hI.lo
    · show I64' (if p.lo < p.hi then p.hi else p.lo)
      split
      · exact hI.hi
      · exact hI.lo
theorem Pred9_ok (fs : List Fd) (nx : Int) (h : SOk fs nx) : ∀ (n : Nat), n ≤ 7 → ∀ (p : Pr), p.Lim → p.I → VX P G 115 [.agg [.sl .none (fs.map fdD), .int .i64 nx], .agg p.cells, .int .i64 (n : Int)] (isVq fs n)
  | 0, hn, p, hl, hi => by
    obtain ⟨_, z3, hk⟩ := hl
    exact Pred9_step fs nx h 0 hn p (PI_subs _ p (Nat.le_refl _) hi p (by rw [subs_eq]; simp)) z3 fun m hm => absurd hm (by omega)
  | n + 1, hn, p, hl, hi => by
    obtain ⟨_, z3, hk⟩ := hl
    exact Pred9_step fs nx h (n + 1) hn p (PI_subs _ p (Nat.le_refl _) hi p (by rw [subs_eq]; simp)) z3 fun m hm k hk' => by
      obtain rfl : m = n := by omega
      exact Pred9_ok fs nx h m (by omega) k (hk k hk') (hi.parts.2.2.2.2.2 k hk')
end Go.Proofs.YtpblgfgcoamgmaaGreatS
namespace Go.Proofs.YtpblgfgcoamgmaaGreatS
open Go Go.Proofs.YtpblgfgcoamgmaaGreatV

variable {G : Heap}
attribute [local irreducible] VN VC VX VQ VY VW VTA VT0

abbrev Sc := Int × Int
def scC (tk : Tk) (b : List Nat) (s : Sc) : List D := [.sl tk (bs b), .int .i64 s.1, .int .i64 s.2]
def nxU (b : List Nat) (s : Sc) : Nat × Sc := if s.2 = 0 then ((readU b s.1).1, ((readU b s.1).2.1, (readU b s.1).2.2)) else (0, s)
def nxS (b : List Nat) (s : Sc) : Int × Sc := if s.2 = 0 then (unzig (readU b s.1).1, ((readU b s.1).2.1, (readU b s.1).2.2)) else (0, s)
def nxT (b : List Nat) (s : Sc) : ByteArray × Sc := if s.2 = 0 then (strN ((b.drop (spanF b s.1).1).take ((spanF b s.1).2.1 - (spanF b s.1).1)), ((spanF b s.1).2.1, (spanF b s.1).2.2)) else (ByteArray.empty, s)
def failS (s : Sc) (e : Int) (w : Bool) : Sc := if s.2 = 0 ∧ w = true then (s.1, e) else s
def oneF (b : List Nat) (most : Nat) (s : Sc) : Nat × Sc :=
  if s.2 ≠ 0 then (0, s) else if (b.length : Int) ≤ s.1 then (0, (s.1, 6)) else (b.getD s.1.toNat 0, failS (s.1 + 1, 0) 5 (decide (most < b.getD s.1.toNat 0)))
def txtF (b : List Nat) (s : Sc) : ByteArray × Sc := ((nxT b s).1, failS (nxT b s).2 2 (decide (200 < ((nxT b s).1.size : Int))))
def cntF (b : List Nat) (s : Sc) : Nat × Sc :=
  let n := nxU b s
  let s2 := failS n.2 2 (decide (16 < (n.1 : Int)))
  if s2.2 = 0 then (n.1, s2) else (0, s2)
theorem nextU_ok (tk : Tk) (b : List Nat) (s : Sc) (hb : Byt b) : VP P G 160 (fun p => [.pb p 0, .clo (.func 134) [] []]) (scC tk b s) (.int .u64 (nxU b s).1) (scC tk b (nxU b s).2) := by
  have hr := ReadU_ok (G := G) tk b s.1 hb
  simp only [scC, tri] at hr ⊢
  intro p
  refine VC.ofs (fun | 4 => [(0, []), (1, []), (2, []), (3, []), (4, []), (5, []), (6, []), (7, []), (8, []), (9, []), (10, []), (11, []), (12, []), (13, []), (14, []), (15, []), (16, [])] | 99999999 => [(0, [0, 1, 4, 5, 6, 7, 8, 13])] | _ => []) [4] mixed Tryz.func160 rfl rfl rfl rfl (by decide +kernel) (by simp) ?_
  by_cases k : s.2 = 0
  · simp only [go_sem, reduceIte, Nat.reduceEqDiff, Nat.reduceAdd, Nat.reduceSub, Nat.reduceMul, Nat.reduceLT, Nat.reduceLeDiff, Nat.reducePow, Int.reduceToNat, Int.reduceLT, Int.reduceLE, Int.reduceEq, Int.reduceNe, Int.reduceAdd, Int.reduceSub, Int.reduceMul, Int.reduceNeg, k]
    refine cE_vn hr ?_
    simp only [go_sem, reduceIte, Nat.reduceEqDiff, Nat.reduceAdd, Nat.reduceSub, Nat.reduceMul, Nat.reduceLT, Nat.reduceLeDiff, Nat.reducePow, Int.reduceToNat, Int.reduceLT, Int.reduceLE, Int.reduceEq, Int.reduceNe, Int.reduceAdd, Int.reduceSub, Int.reduceMul, Int.reduceNeg, k]
    refine finK_var (b := p) (x := scC tk b (nxU b s).2) (by simp [Heap.set, nxU, k, scC]) ⟨?_, rfl, rfl⟩
    simp [nxU, k, D.er, D.er1]
  · simp only [go_sem, reduceIte, Nat.reduceEqDiff, Nat.reduceAdd, Nat.reduceSub, Nat.reduceMul, Nat.reduceLT, Nat.reduceLeDiff, Nat.reducePow, Int.reduceToNat, Int.reduceLT, Int.reduceLE, Int.reduceEq, Int.reduceNe, Int.reduceAdd, Int.reduceSub, Int.reduceMul, Int.reduceNeg, k, ne_eq]
    refine finK_var (b := p) (x := scC tk b (nxU b s).2) (by simp [Heap.set, nxU, k, scC]) ⟨?_, rfl, rfl⟩
    simp [nxU, k, D.er, D.er1]
theorem nextS_ok (tk : Tk) (b : List Nat) (s : Sc) (hb : Byt b) : VP P G 129 (fun p => [.pb p 0, .clo (.func 91) [] []]) (scC tk b s) (.int .i64 (nxS b s).1) (scC tk b (nxS b s).2) := by
  have hr := ReadS_ok (G := G) tk b s.1 hb
  simp only [scC, triS] at hr ⊢
  intro p
  refine VC.ofs (fun | 4 => [(0, []), (1, []), (2, []), (3, []), (4, []), (5, []), (6, []), (7, []), (8, []), (9, []), (10, []), (11, []), (12, []), (13, []), (14, []), (15, []), (16, [])] | 99999999 => [(0, [0, 1, 4, 5, 6, 7, 8, 13])] | _ => []) [4] mixed Tryz.func129 rfl rfl rfl rfl (by decide +kernel) (by simp) ?_
  by_cases k : s.2 = 0
  · simp only [go_sem, reduceIte, Nat.reduceEqDiff, Nat.reduceAdd, Nat.reduceSub, Nat.reduceMul, Nat.reduceLT, Nat.reduceLeDiff, Nat.reducePow, Int.reduceToNat, Int.reduceLT, Int.reduceLE, Int.reduceEq, Int.reduceNe, Int.reduceAdd, Int.reduceSub, Int.reduceMul, Int.reduceNeg, k]
    refine cE_vn hr ?_
    simp only [go_sem, reduceIte, Nat.reduceEqDiff, Nat.reduceAdd, Nat.reduceSub, Nat.reduceMul, Nat.reduceLT, Nat.reduceLeDiff, Nat.reducePow, Int.reduceToNat, Int.reduceLT, Int.reduceLE, Int.reduceEq, Int.reduceNe, Int.reduceAdd, Int.reduceSub, Int.reduceMul, Int.reduceNeg, k]
    refine finK_var (b := p) (x := scC tk b (nxS b s).2) (by simp [Heap.set, nxS, k, scC]) ⟨?_, rfl, rfl⟩
    simp [nxS, k, D.er, D.er1]
  · simp only [go_sem, reduceIte, Nat.reduceEqDiff, Nat.reduceAdd, Nat.reduceSub, Nat.reduceMul, Nat.reduceLT, Nat.reduceLeDiff, Nat.reducePow, Int.reduceToNat, Int.reduceLT, Int.reduceLE, Int.reduceEq, Int.reduceNe, Int.reduceAdd, Int.reduceSub, Int.reduceMul, Int.reduceNeg, k, ne_eq]
    refine finK_var (b := p) (x := scC tk b (nxS b s).2) (by simp [Heap.set, nxS, k, scC]) ⟨?_, rfl, rfl⟩
    simp [nxS, k, D.er, D.er1]
theorem nextT_ok (tk : Tk) (b : List Nat) (s : Sc) (hb : Byt b) : VP P G 161 (fun p => [.pb p 0, .clo (.func 93) [] []]) (scC tk b s) (.str (nxT b s).1) (scC tk b (nxT b s).2) := by
  have hr := ReadText_ok (G := G) tk b s.1 hb
  simp only [scC, triT] at hr ⊢
  intro p
  refine VC.ofs (fun | 4 => [(0, []), (1, []), (2, []), (3, []), (4, []), (5, []), (6, []), (7, []), (8, []), (9, []), (10, []), (11, []), (12, []), (13, []), (14, []), (15, []), (16, [])] | 99999999 => [(0, [0, 1, 4, 5, 6, 7, 8, 13])] | _ => []) [4] mixed Tryz.func161 rfl rfl rfl rfl (by decide +kernel) (by simp) ?_
  by_cases k : s.2 = 0
  · simp only [go_sem, reduceIte, Nat.reduceEqDiff, Nat.reduceAdd, Nat.reduceSub, Nat.reduceMul, Nat.reduceLT, Nat.reduceLeDiff, Nat.reducePow, Int.reduceToNat, Int.reduceLT, Int.reduceLE, Int.reduceEq, Int.reduceNe, Int.reduceAdd, Int.reduceSub, Int.reduceMul, Int.reduceNeg, k]
    refine cE_vn hr ?_
    simp only [go_sem, reduceIte, Nat.reduceEqDiff, Nat.reduceAdd, Nat.reduceSub, Nat.reduceMul, Nat.reduceLT, Nat.reduceLeDiff, Nat.reducePow, Int.reduceToNat, Int.reduceLT, Int.reduceLE, Int.reduceEq, Int.reduceNe, Int.reduceAdd, Int.reduceSub, Int.reduceMul, Int.reduceNeg, k]
    refine finK_var (b := p) (x := scC tk b (nxT b s).2) (by simp [Heap.set, nxT, k, scC]) ⟨?_, rfl, rfl⟩
    simp [nxT, k, D.er, D.er1]
  · simp only [go_sem, reduceIte, Nat.reduceEqDiff, Nat.reduceAdd, Nat.reduceSub, Nat.reduceMul, Nat.reduceLT, Nat.reduceLeDiff, Nat.reducePow, Int.reduceToNat, Int.reduceLT, Int.reduceLE, Int.reduceEq, Int.reduceNe, Int.reduceAdd, Int.reduceSub, Int.reduceMul, Int.reduceNeg, k, ne_eq]
    refine finK_var (b := p) (x := scC tk b (nxT b s).2) (by simp [Heap.set, nxT, k, scC]) ⟨?_, rfl, rfl⟩
    simp [nxT, k, D.er, D.er1]; rfl
theorem fail_ok (tk : Tk) (b : List Nat) (s : Sc) (e : Int) (w : Bool) : VP P G 132 (fun p => [.pb p 0, .int .i64 e, .bool w]) (scC tk b s) (.tup []) (scC tk b (failS s e w)) := by
  simp only [scC]
  intro p
  refine VC.ofs (fun | 99999999 => [(0, [0, 1, 2, 13])] | _ => []) [] mixed Tryz.func132 rfl rfl rfl rfl (by decide +kernel) (by simp) ?_
  by_cases k : s.2 = 0
  all_goals cases w
  all_goals simp only [go_sem, reduceIte, Nat.reduceEqDiff, Nat.reduceAdd, Nat.reduceSub, Nat.reduceMul, Nat.reduceLT, Nat.reduceLeDiff, Nat.reducePow, Int.reduceToNat, Int.reduceLT, Int.reduceLE, Int.reduceEq, Int.reduceNe, Int.reduceAdd, Int.reduceSub, Int.reduceMul, Int.reduceNeg, k]
  all_goals refine finK_var (b := p) (x := scC tk b (failS s e _)) (by simp [Heap.set, failS, k, scC]) ⟨?_, rfl, rfl⟩
  all_goals rfl
theorem Fini.var (b : Nat) (x : List D) : Fini (Heap.nil.set b x) := ⟨b + 1, fun b' h => by
  unfold Heap.set; rw [if_neg (by omega)]; rfl⟩
theorem cE_vp {P : Program} {G : Heap} {f : FuncId} {args : Nat → List D} {x y : List D} {d : D} {b : Nat} {β : Heap} {ω : List Nat} {U : List Nat} {i : Nat} {rd : Rd} {ops : Array Oper} {es : List Ent} {Q : VE → St → Prop} {dst : Option Tmp} {σ : Sg}
    (h : VP P G f args x d y) (hb : β b = some x) (hr : ∀ b', rd i b' → b' ≠ b) (hk : Kd P G ops es Q dst σ d rd (β.set b y) ω) : cE P G U i (.clo (.func f) [] []) True (args b) rd β ω ops es Q dst σ :=
  callE_vc (h b) (Part.var hb) (fun b' hb' => by unfold Heap.set; rw [if_neg (hr b' hb')]; rfl)
    (fun _ N => ⟨d, Heap.nil.set b y, [], ⟨rfl, rfl, rfl⟩, Fini.var b y, fun b' h1 h2 => by
      unfold Heap.set at h1 h2
      by_cases e : b' = b
      · rw [if_pos e] at h2; cases h2
      · rw [if_neg e] at h1; exact absurd rfl h1, fun t ht => by simp at ht⟩)
    (fun d' β' ω' ⟨β1, ω1, ⟨h1, h2, h3⟩, _, _, h4, h5⟩ => by
      cases h1; subst h2 h3 h4 h5
      rw [joinH_box hb]
      simpa using hk)
    (fun d' β' ω' ⟨β1, ω1, ⟨h1, h2, h3⟩, _, _, h4, h5⟩ => by cases h1)
theorem text_ok (tk : Tk) (b : List Nat) (s : Sc) (hb : Byt b) : VP P G 131 (fun p => [.pb p 0]) (scC tk b s) (.str (txtF b s).1) (scC tk b (txtF b s).2) := by
  have h1 := nextT_ok (G := G) tk b s hb
  have h2 := fail_ok (G := G) tk b (nxT b s).2 2 (decide (200 < ((nxT b s).1.size : Int)))
  intro p
  refine VC.ofs (fun | 99999999 => [(0, [0, 2, 3])] | _ => []) [2] mixed Tryz.func131 rfl rfl rfl rfl (by decide +kernel) (by simp) ?_
  simp only [go_sem, reduceIte, Nat.reduceEqDiff, Nat.reduceAdd, Nat.reduceSub, Nat.reduceMul, Nat.reduceLT, Nat.reduceLeDiff, Nat.reducePow, Int.reduceToNat, Int.reduceLT, Int.reduceLE, Int.reduceEq, Int.reduceNe, Int.reduceAdd, Int.reduceSub, Int.reduceMul, Int.reduceNeg]
  refine cK_vp h1 (by simp [Heap.set]) ?_
  try simp only [go_sem, reduceIte, Nat.reduceEqDiff, Nat.reduceAdd, Nat.reduceSub, Nat.reduceMul, Nat.reduceLT, Nat.reduceLeDiff, Nat.reducePow, Int.reduceToNat, Int.reduceLT, Int.reduceLE, Int.reduceEq, Int.reduceNe, Int.reduceAdd, Int.reduceSub, Int.reduceMul, Int.reduceNeg, ]
  refine cK_vp h2 (by simp [Heap.set]) ?_
  try simp only [go_sem, reduceIte, Nat.reduceEqDiff, Nat.reduceAdd, Nat.reduceSub, Nat.reduceMul, Nat.reduceLT, Nat.reduceLeDiff, Nat.reducePow, Int.reduceToNat, Int.reduceLT, Int.reduceLE, Int.reduceEq, Int.reduceNe, Int.reduceAdd, Int.reduceSub, Int.reduceMul, Int.reduceNeg, ]
  refine finK_var (b := p) (x := scC tk b (txtF b s).2) (by simp only [Heap.set, if_true, txtF]) ⟨rfl, rfl, rfl⟩
theorem count_ok (tk : Tk) (b : List Nat) (s : Sc) (hb : Byt b) : VP P G 130 (fun p => [.pb p 0]) (scC tk b s) (.int .i64 (cntF b s).1) (scC tk b (cntF b s).2) := by
  obtain ⟨n, hn⟩ : ∃ n, nxU b s = n := ⟨_, rfl⟩
  obtain ⟨s2, hs2⟩ : ∃ s2, failS n.2 2 (decide (16 < (n.1 : Int))) = s2 := ⟨_, rfl⟩
  have h1 := nextU_ok (G := G) tk b s hb
  have h2 := fail_ok (G := G) tk b n.2 2 (decide (16 < (n.1 : Int)))
  rw [hs2] at h2
  rw [hn] at h1
  have hF : cntF b s = if s2.2 = 0 then (n.1, s2) else (0, s2) := by subst hn hs2; rfl
  have h16 : s2.2 = 0 → n.1 ≤ 16 := fun h => by
    rw [← hs2] at h
    unfold failS at h
    split at h
    · cases h
    · rename_i g
      have := fun h' => g ⟨h, h'⟩
      simp at this; omega
  rw [hF]
  intro p
  refine VC.ofs (fun | 99999999 => [(0, [0, 2, 3, 14])] | _ => []) [2] mixed Tryz.func130 rfl rfl rfl rfl (by decide +kernel) (by simp) ?_
  simp only [go_sem, reduceIte, Nat.reduceEqDiff, Nat.reduceAdd, Nat.reduceSub, Nat.reduceMul, Nat.reduceLT, Nat.reduceLeDiff, Nat.reducePow, Int.reduceToNat, Int.reduceLT, Int.reduceLE, Int.reduceEq, Int.reduceNe, Int.reduceAdd, Int.reduceSub, Int.reduceMul, Int.reduceNeg]
  refine cK_vp h1 (by simp [Heap.set]) ?_
  try simp only [go_sem, reduceIte, Nat.reduceEqDiff, Nat.reduceAdd, Nat.reduceSub, Nat.reduceMul, Nat.reduceLT, Nat.reduceLeDiff, Nat.reducePow, Int.reduceToNat, Int.reduceLT, Int.reduceLE, Int.reduceEq, Int.reduceNe, Int.reduceAdd, Int.reduceSub, Int.reduceMul, Int.reduceNeg, ]
  refine cK_vp h2 (by simp [Heap.set]) ?_
  by_cases k : s2.2 = 0
  · have := h16 k
    have w := wrap_i64 (x := (n.1 : Int)) (by omega) (by omega)
    try simp only [go_sem, reduceIte, Nat.reduceEqDiff, Nat.reduceAdd, Nat.reduceSub, Nat.reduceMul, Nat.reduceLT, Nat.reduceLeDiff, Nat.reducePow, Int.reduceToNat, Int.reduceLT, Int.reduceLE, Int.reduceEq, Int.reduceNe, Int.reduceAdd, Int.reduceSub, Int.reduceMul, Int.reduceNeg, scC, k, w]
    refine finK_var (b := p) (x := scC tk b s2) (by simp [Heap.set, scC, k]) ⟨rfl, by simp [scC, k], rfl⟩
  · try simp only [go_sem, reduceIte, Nat.reduceEqDiff, Nat.reduceAdd, Nat.reduceSub, Nat.reduceMul, Nat.reduceLT, Nat.reduceLeDiff, Nat.reducePow, Int.reduceToNat, Int.reduceLT, Int.reduceLE, Int.reduceEq, Int.reduceNe, Int.reduceAdd, Int.reduceSub, Int.reduceMul, Int.reduceNeg, scC, k, ne_eq]
    refine finK_var (b := p) (x := scC tk b s2) (by simp [Heap.set, scC]) ⟨rfl, by simp [scC], rfl⟩
theorem bs_get {l : List Nat} {i : Int} (h0 : 0 ≤ i) (h : i < l.length) : (bs l).getD i.toNat .any = .int .u8 ((l.getD i.toNat 0 : Nat) : Int) := bs_at l (by omega)
theorem one_ok (tk : Tk) (b : List Nat) (most : Nat) (s : Sc) (h0 : 0 ≤ s.1) (hb : b.length ≤ 1099511627776) : VP P G 128 (fun p => [.pb p 0, .int .u8 most]) (scC tk b s) (.int .u8 (oneF b most s).1) (scC tk b (oneF b most s).2) := by
  have hf := fun s e w => fail_ok (G := G) tk b s e w
  obtain ⟨at_, e⟩ := s
  dsimp only at h0
  simp only [scC] at hf ⊢
  intro p
  refine VC.ofs (fun | 1 => [(0, []), (1, []), (2, []), (3, []), (4, []), (5, []), (6, []), (7, []), (8, []), (9, []), (10, []), (11, []), (12, []), (13, []), (14, []), (15, []), (16, []), (17, []), (18, [])] | 4 => [(0, []), (1, []), (2, []), (3, []), (4, []), (5, []), (6, []), (7, []), (8, []), (9, []), (10, [])] | 99999999 => [(0, [0, 1, 4, 5, 29])] | _ => []) [4] mixed Tryz.func128 rfl rfl rfl rfl (by decide +kernel) (by simp) ?_
  have el : (bs b).length = b.length := bs_length b
  by_cases k : e = 0
  · subst k
    by_cases k1 : (b.length : Int) ≤ at_
    · have k1' := eq_true k1
      have hF : oneF b most (at_, 0) = (0, (at_, 6)) := by simp [oneF, k1]
      have hf1 := hf (at_, 0) 6 true
      rw [show failS (at_, 0) 6 true = (at_, 6) from rfl] at hf1
      rw [hF]
      try simp only [go_sem, reduceIte, Nat.reduceEqDiff, Nat.reduceAdd, Nat.reduceSub, Nat.reduceMul, Nat.reduceLT, Nat.reduceLeDiff, Nat.reducePow, Int.reduceToNat, Int.reduceLT, Int.reduceLE, Int.reduceEq, Int.reduceNe, Int.reduceAdd, Int.reduceSub, Int.reduceMul, Int.reduceNeg, el, k1', ge_iff_le, decide_true]
      refine cE_vp hf1 (by simp [Heap.set]) (by simp) ?_
      try simp only [go_sem, reduceIte, Nat.reduceEqDiff, Nat.reduceAdd, Nat.reduceSub, Nat.reduceMul, Nat.reduceLT, Nat.reduceLeDiff, Nat.reducePow, Int.reduceToNat, Int.reduceLT, Int.reduceLE, Int.reduceEq, Int.reduceNe, Int.reduceAdd, Int.reduceSub, Int.reduceMul, Int.reduceNeg, ne_eq]
      exact finK_var (b := p) (by simp [Heap.set]) ⟨rfl, rfl, rfl⟩
    · have k1' := eq_false k1
      obtain ⟨c, hc⟩ : ∃ c, b.getD at_.toNat 0 = c := ⟨_, rfl⟩
      have hF : oneF b most (at_, 0) = (c, failS (at_ + 1, 0) 5 (decide (most < c))) := by simp only [oneF, ne_eq, not_true_eq_false, if_false, if_neg k1, hc]
      have hf1 := hf (at_, 0) 6 false
      rw [show failS (at_, 0) 6 false = (at_, 0) from rfl] at hf1
      have hf2 := hf (at_ + 1, 0) 5 (decide (most < c))
      have c1 := eq_true h0
      have c2 : (at_ < (b.length : Int)) = True := eq_true (by omega)
      have ex := bs_get h0 (show at_ < (b.length : Int) by omega)
      rw [hc] at ex
      have w1 := wrap_i64 (x := at_ + 1) (by omega) (by omega)
      have hd : decide ((most : Int) < (c : Int)) = decide (most < c) := by simp
      rw [hF]
      try simp only [go_sem, reduceIte, Nat.reduceEqDiff, Nat.reduceAdd, Nat.reduceSub, Nat.reduceMul, Nat.reduceLT, Nat.reduceLeDiff, Nat.reducePow, Int.reduceToNat, Int.reduceLT, Int.reduceLE, Int.reduceEq, Int.reduceNe, Int.reduceAdd, Int.reduceSub, Int.reduceMul, Int.reduceNeg, el, k1', ge_iff_le, decide_false]
      refine cE_vp hf1 (by simp [Heap.set]) (by simp) ?_
      try simp only [go_sem, reduceIte, Nat.reduceEqDiff, Nat.reduceAdd, Nat.reduceSub, Nat.reduceMul, Nat.reduceLT, Nat.reduceLeDiff, Nat.reducePow, Int.reduceToNat, Int.reduceLT, Int.reduceLE, Int.reduceEq, Int.reduceNe, Int.reduceAdd, Int.reduceSub, Int.reduceMul, Int.reduceNeg, ne_eq, el, c1, c2, ex, w1]
      rw [hd]
      refine cK_vp hf2 (by simp [Heap.set]) ?_
      try simp only [go_sem, reduceIte, Nat.reduceEqDiff, Nat.reduceAdd, Nat.reduceSub, Nat.reduceMul, Nat.reduceLT, Nat.reduceLeDiff, Nat.reducePow, Int.reduceToNat, Int.reduceLT, Int.reduceLE, Int.reduceEq, Int.reduceNe, Int.reduceAdd, Int.reduceSub, Int.reduceMul, Int.reduceNeg, ]
      exact finK_var (b := p) (by simp [Heap.set]) ⟨rfl, rfl, rfl⟩
  · have k' := eq_false k
    have hF : oneF b most (at_, e) = (0, (at_, e)) := by simp [oneF, k]
    have hf1 := hf (at_, e) 6 false
    rw [show failS (at_, e) 6 false = (at_, e) from by simp [failS]] at hf1
    rw [hF]
    try simp only [go_sem, reduceIte, Nat.reduceEqDiff, Nat.reduceAdd, Nat.reduceSub, Nat.reduceMul, Nat.reduceLT, Nat.reduceLeDiff, Nat.reducePow, Int.reduceToNat, Int.reduceLT, Int.reduceLE, Int.reduceEq, Int.reduceNe, Int.reduceAdd, Int.reduceSub, Int.reduceMul, Int.reduceNeg, el, k', decide_false]
    refine cE_vp hf1 (by simp [Heap.set]) (by simp) ?_
    try simp only [go_sem, reduceIte, Nat.reduceEqDiff, Nat.reduceAdd, Nat.reduceSub, Nat.reduceMul, Nat.reduceLT, Nat.reduceLeDiff, Nat.reducePow, Int.reduceToNat, Int.reduceLT, Int.reduceLE, Int.reduceEq, Int.reduceNe, Int.reduceAdd, Int.reduceSub, Int.reduceMul, Int.reduceNeg, ne_eq, k', not_false_eq_true, decide_true]
    exact finK_var (b := p) (by simp [Heap.set]) ⟨rfl, rfl, rfl⟩
def valsF (b : List Nat) : Nat → List Vl → Sc → List Vl × Sc
  | 0, l, s => (l, s)
  | n + 1, l, s => valsF b n (l ++ [⟨decide ((oneF b 1 s).1 = 1), (nxS b (oneF b 1 s).2).1, (txtF b (nxS b (oneF b 1 s).2).2).1⟩]) (txtF b (nxS b (oneF b 1 s).2).2).2
def kidsF (rd : Sc → Pr × Sc) : Nat → List Pr → Sc → List Pr × Sc
  | 0, l, s => (l, s)
  | n + 1, l, s => if s.2 = 0 then kidsF rd n (l ++ [(rd s).1]) (rd s).2 else (l, s)
def predG (b : List Nat) (m : Nat) (rd : Sc → Pr × Sc) (s : Sc) : Pr × Sc :=
  let o := oneF b 7 s
  let i := if isAt o.1 then nxS b o.2 else (0, o.2)
  if o.1 = 1 then
    let l := nxS b i.2
    let h := nxS b l.2
    (.mk o.1 i.1 l.1 h.1 [] ByteArray.empty [], h.2)
  else if o.1 = 2 then
    let c := cntF b i.2
    let r := valsF b c.1 [] c.2
    (.mk o.1 i.1 0 0 r.1 ByteArray.empty [], r.2)
  else if o.1 = 3 then
    let t := txtF b i.2
    (.mk o.1 i.1 0 0 [] t.1 [], t.2)
  else if o.1 = 5 ∨ o.1 = 6 ∨ o.1 = 7 then
    let c := cntF b i.2
    let r := kidsF rd c.1 [] (failS (failS c.2 5 (decide (o.1 = 7) && decide (c.1 ≠ 1))) 2 (decide (0 < c.1) && decide (m < 2)))
    (.mk o.1 i.1 0 0 [] ByteArray.empty r.1, r.2)
  else (.mk o.1 i.1 0 0 [] ByteArray.empty [], i.2)
def Pr.nul : Pr := .mk 0 0 0 0 [] ByteArray.empty []
def predF (b : List Nat) : Nat → Sc → Pr × Sc
  | 0 => predG b 0 fun s => (Pr.nul, s)
  | m + 1 => predG b (m + 1) (predF b m)
theorem failS_ge {s : Sc} {e : Int} {w : Bool} (h : 0 ≤ s.1) : 0 ≤ (failS s e w).1 := by unfold failS; split <;> exact h
theorem nxU_ge {b : List Nat} {s : Sc} (h : 0 ≤ s.1) : 0 ≤ (nxU b s).2.1 := by unfold nxU; split <;> first | exact h | exact Int.natCast_nonneg _
theorem nxS_ge {b : List Nat} {s : Sc} (h : 0 ≤ s.1) : 0 ≤ (nxS b s).2.1 := by unfold nxS; split <;> first | exact h | exact Int.natCast_nonneg _
theorem nxT_ge {b : List Nat} {s : Sc} (h : 0 ≤ s.1) : 0 ≤ (nxT b s).2.1 := by unfold nxT; split <;> first | exact h | exact Int.natCast_nonneg _
theorem oneF_ge {b : List Nat} {m : Nat} {s : Sc} (h : 0 ≤ s.1) : 0 ≤ (oneF b m s).2.1 := by
  unfold oneF; split
  · exact h
  · split
    · exact h
    · exact failS_ge (by dsimp only; omega)
theorem txtF_ge {b : List Nat} {s : Sc} (h : 0 ≤ s.1) : 0 ≤ (txtF b s).2.1 := failS_ge (nxT_ge h)
theorem cntF_ge {b : List Nat} {s : Sc} (h : 0 ≤ s.1) : 0 ≤ (cntF b s).2.1 := by
  unfold cntF; dsimp only; split <;> exact failS_ge (nxU_ge h)
theorem cntF_le {b : List Nat} {s : Sc} : (cntF b s).1 ≤ 16 := by
  unfold cntF; dsimp only
  split
  · rename_i h
    unfold failS at h
    split at h
    · cases h
    · rename_i g
      have := fun h' => g ⟨h, h'⟩
      simp at this; omega
  · simp
theorem cntF_err {b : List Nat} {s : Sc} (h : (cntF b s).2.2 ≠ 0) : (cntF b s).1 = 0 := by
  unfold cntF at h ⊢; dsimp only at h ⊢
  split
  · rename_i g; rw [if_pos g] at h; exact absurd g h
  · rfl
theorem oneF_lt {b : List Nat} (hb : Byt b) (m : Nat) (s : Sc) : (oneF b m s).1 < 256 := by
  unfold oneF; split
  · simp
  · split
    · simp
    · dsimp only
      by_cases h : s.1.toNat < b.length
      · rw [List.getD, List.getElem?_eq_getElem h]; exact hb _ (List.getElem_mem _)
      · rw [List.getD, List.getElem?_eq_none (by omega)]; simp
theorem finK_vp {p : Nat} {x : List D} {d r : D} {β : Heap} {ω : List Nat} (hb : β p = some x) (hr : d.er = r) : finK (fun o β' ω' => o = .ret r ∧ β' = Heap.nil.set p x ∧ ω' = []) d β ω :=
  finK_var (b := p) hb ⟨by rw [hr], rfl, rfl⟩
set_option maxRecDepth 100000 in
set_option maxHeartbeats 8000000 in
theorem pred_step (tk : Tk) (b : List Nat) (hb : Byt b) (hbl : b.length ≤ 1099511627776) (m : Nat) (hm : m ≤ 100) (rd : Sc → Pr × Sc)
    (hrd : 2 ≤ m → ∀ s, 0 ≤ s.1 → VP P G 85 (fun p => [.pb p 0, .int .i64 ((m : Int) - 1)]) (scC tk b s) (.agg (rd s).1.cells) (scC tk b (rd s).2) ∧ 0 ≤ (rd s).2.1) (s : Sc) (hs : 0 ≤ s.1) :
    VP P G 85 (fun p => [.pb p 0, .int .i64 m]) (scC tk b s) (.agg (predG b m rd s).1.cells) (scC tk b (predG b m rd s).2) := by
  have h1 := one_ok (G := G) tk b 7 s hs hbl
  have g1 := oneF_ge (b := b) (m := 7) hs
  obtain ⟨o, s1, ho⟩ : ∃ o s1, oneF b 7 s = (o, s1) := ⟨_, _, rfl⟩
  have hnS := fun s => nextS_ok (G := G) tk b s hb
  have htx := fun s => text_ok (G := G) tk b s hb
  have hct := fun s => count_ok (G := G) tk b s hb
  have hfl := fun s e w => fail_ok (G := G) tk b s e w
  have hv1 := fun (s : Sc) (h : 0 ≤ s.1) => one_ok (G := G) tk b 1 s h hbl
  have hat := isAtom_ok (G := G) (o : Int)
  rw [ho] at h1 g1
  dsimp only at h1 g1
  obtain ⟨R, hR⟩ : ∃ R, predG b m rd s = R := ⟨_, rfl⟩
  have hR' := hR
  rw [hR]
  unfold predG at hR'
  rw [ho] at hR'
  dsimp only at hR'
  intro p
  refine VC.ofc (fun | 27 => [(0, []), (1, [5]), (2, []), (3, []), (4, []), (5, []), (6, []), (7, []), (8, []), (9, [])] | 99999999 => [(0, [0, 1, 4, 5, 6, 7, 14, 19, 20, 28, 31, 32, 33, 51, 56, 79, 80, 81, 86])] | _ => []) [.cell 4 40] mixed Tryz.func85 rfl rfl rfl rfl (by decide +kernel) (by simp) ?_
  have ho7 : o < 256 := by have := oneF_lt hb 7 s; rw [ho] at this; exact this
  have wo := wrap_i64 (x := (o : Int)) (by omega) (by omega)
  simp only [go_sem, reduceIte, Nat.reduceEqDiff, Nat.reduceAdd, Nat.reduceSub, Nat.reduceMul, Nat.reduceLT, Nat.reduceLeDiff, Nat.reducePow, Int.reduceToNat, Int.reduceLT, Int.reduceLE, Int.reduceEq, Int.reduceNe, Int.reduceAdd, Int.reduceSub, Int.reduceMul, Int.reduceNeg]
  refine new_1 fun b4 q1 q2 => ?_
  try simp only [go_sem, reduceIte, Nat.reduceEqDiff, Nat.reduceAdd, Nat.reduceSub, Nat.reduceMul, Nat.reduceLT, Nat.reduceLeDiff, Nat.reducePow, Int.reduceToNat, Int.reduceLT, Int.reduceLE, Int.reduceEq, Int.reduceNe, Int.reduceAdd, Int.reduceSub, Int.reduceMul, Int.reduceNeg, q1, q2]
  refine cK_vp h1 (by simp [Heap.set, q1, q2]) ?_
  have N := And.intro q1 q2
  try simp only [go_sem, reduceIte, Nat.reduceEqDiff, Nat.reduceAdd, Nat.reduceSub, Nat.reduceMul, Nat.reduceLT, Nat.reduceLeDiff, Nat.reducePow, Int.reduceToNat, Int.reduceLT, Int.reduceLE, Int.reduceEq, Int.reduceNe, Int.reduceAdd, Int.reduceSub, Int.reduceMul, Int.reduceNeg, q1, q2, wo]
  generalize hβ : Heap.set _ p _ = β0
  have ep : β0 p = some (scC tk b s1) := by rw [← hβ]; simp [Heap.set]
  have e4 : β0 b4 = some [.int .i64 0, .int .i64 0, .int .i64 0, .int .i64 0, .sl .full [], .str ByteArray.empty, .sl .full []] := by rw [← hβ]; simp [Heap.set, q1, q2]
  clear hβ
  refine new_any fun b5 hb5 => ?_
  have N := And.intro N (box_ne hb5 ep)
  have N := And.intro N (box_ne hb5 e4)
  try simp only [go_sem, reduceIte, Nat.reduceEqDiff, Nat.reduceAdd, Nat.reduceSub, Nat.reduceMul, Nat.reduceLT, Nat.reduceLeDiff, Nat.reducePow, Int.reduceToNat, Int.reduceLT, Int.reduceLE, Int.reduceEq, Int.reduceNe, Int.reduceAdd, Int.reduceSub, Int.reduceMul, Int.reduceNeg, N]
  generalize hβ_ : Heap.set _ b5 _ = β_
  have e5 := hit_set hβ_
  have ep := keep_new hβ_ hb5 ep
  have e4 := keep_new hβ_ hb5 e4
  clear hβ_ hb5
  refine cK_vn hat ?_
  obtain ⟨i, hi⟩ : ∃ i : Int × Sc, (if isAt o then nxS b s1 else (0, s1)) = i := ⟨_, rfl⟩
  have gi : 0 ≤ i.2.1 := by rw [← hi]; split; exact nxS_ge g1; exact g1
  rw [hi] at hR'
  by_cases ka : isAt o = true
  · rw [if_pos ka] at hi
    have hn := hnS s1
    rw [hi] at hn
    have o4 : o = 1 ∨ o = 2 ∨ o = 3 ∨ o = 4 := by
      simp only [isAt, Bool.and_eq_true, decide_eq_true_eq] at ka
      omega
    try simp only [go_sem, reduceIte, Nat.reduceEqDiff, Nat.reduceAdd, Nat.reduceSub, Nat.reduceMul, Nat.reduceLT, Nat.reduceLeDiff, Nat.reducePow, Int.reduceToNat, Int.reduceLT, Int.reduceLE, Int.reduceEq, Int.reduceNe, Int.reduceAdd, Int.reduceSub, Int.reduceMul, Int.reduceNeg, N, ka]
    refine cK_vp hn ep ?_
    try simp only [go_sem, reduceIte, Nat.reduceEqDiff, Nat.reduceAdd, Nat.reduceSub, Nat.reduceMul, Nat.reduceLT, Nat.reduceLeDiff, Nat.reducePow, Int.reduceToNat, Int.reduceLT, Int.reduceLE, Int.reduceEq, Int.reduceNe, Int.reduceAdd, Int.reduceSub, Int.reduceMul, Int.reduceNeg, N, e5]
    rcases o4 with rfl | rfl | rfl | rfl
    · try simp only [go_sem, reduceIte, Nat.reduceEqDiff, Nat.reduceAdd, Nat.reduceSub, Nat.reduceMul, Nat.reduceLT, Nat.reduceLeDiff, Nat.reducePow, Int.reduceToNat, Int.reduceLT, Int.reduceLE, Int.reduceEq, Int.reduceNe, Int.reduceAdd, Int.reduceSub, Int.reduceMul, Int.reduceNeg, N]
      refine cK_vp (hnS i.2) (by simp [Heap.set, N]) ?_
      try simp only [go_sem, reduceIte, Nat.reduceEqDiff, Nat.reduceAdd, Nat.reduceSub, Nat.reduceMul, Nat.reduceLT, Nat.reduceLeDiff, Nat.reducePow, Int.reduceToNat, Int.reduceLT, Int.reduceLE, Int.reduceEq, Int.reduceNe, Int.reduceAdd, Int.reduceSub, Int.reduceMul, Int.reduceNeg, N]
      refine cK_vp (hnS (nxS b i.2).2) (by simp [Heap.set, N]) ?_
      try simp only [go_sem, reduceIte, Nat.reduceEqDiff, Nat.reduceAdd, Nat.reduceSub, Nat.reduceMul, Nat.reduceLT, Nat.reduceLeDiff, Nat.reducePow, Int.reduceToNat, Int.reduceLT, Int.reduceLE, Int.reduceEq, Int.reduceNe, Int.reduceAdd, Int.reduceSub, Int.reduceMul, Int.reduceNeg, N, e4]
      refine finK_vp (by simp only [Heap.set, N, if_true, if_false]; rw [← hR']; rfl) (by rw [← hR']; rfl)
    · try simp only [go_sem, reduceIte, Nat.reduceEqDiff, Nat.reduceAdd, Nat.reduceSub, Nat.reduceMul, Nat.reduceLT, Nat.reduceLeDiff, Nat.reducePow, Int.reduceToNat, Int.reduceLT, Int.reduceLE, Int.reduceEq, Int.reduceNe, Int.reduceAdd, Int.reduceSub, Int.reduceMul, Int.reduceNeg, N]
      refine cK_vp (hct i.2) (show _ = some (scC tk b i.2) by simp [Heap.set, N]) ?_
      have gc := cntF_ge (b := b) gi
      have hc16 := cntF_le (b := b) (s := i.2)
      obtain ⟨c, hc⟩ : ∃ c, cntF b i.2 = c := ⟨_, rfl⟩
      rw [hc] at gc hc16 hR' ⊢
      obtain ⟨n, s2⟩ := c
      dsimp only at gc hc16 hR'
      obtain ⟨V, hV⟩ : ∃ V, valsF b n [] s2 = V := ⟨_, rfl⟩
      have hR2 : R = (.mk 2 i.1 0 0 V.1 ByteArray.empty [], V.2) := by rw [← hR', ← hV]; rfl
      clear hR' hR
      try simp only [go_sem, reduceIte, Nat.reduceEqDiff, Nat.reduceAdd, Nat.reduceSub, Nat.reduceMul, Nat.reduceLT, Nat.reduceLeDiff, Nat.reducePow, Int.reduceToNat, Int.reduceLT, Int.reduceLE, Int.reduceEq, Int.reduceNe, Int.reduceAdd, Int.reduceSub, Int.reduceMul, Int.reduceNeg, N]
      refine vwq_loop (fun v => ∃ (j : Nat) (l : List Vl) (st : Sc) (t : Tk), j ≤ n ∧ l.length = j ∧ valsF b (n - j) l st = V ∧ 0 ≤ st.1 ∧ TW 3 t v.ω ∧ v.β p = some (scC tk b st) ∧ v.β b5 = some [.int .i64 2, .int .i64 i.1, .int .i64 0, .int .i64 0, .sl t (l.map Vl.d), .str ByteArray.empty, .sl .full []] ∧ v.β b4 = some [.int .i64 0, .int .i64 0, .int .i64 0, .int .i64 0, .sl .full [], .str ByteArray.empty, .sl .full []] ∧ v.σ 0 = .pb p 0 ∧ v.σ 4 = .pb b4 0 ∧ v.σ 5 = .pb b5 0 ∧ v.σ 31 = .int .i64 n ∧ v.σ 32 = .int .i64 j) (fun v => n - (ival (v.σ 32)).toNat) ⟨0, [], s2, .full, by omega, rfl, hV, gc, TW.full 3, by simp [Heap.set, N], by simp [Heap.set, N], by simp only [Heap.set, N, if_false]; exact e4, rfl, rfl, rfl, rfl, rfl⟩ ?_
      clear hV gc
      rintro σ β ω ⟨j, l, st, t, hj, hl, hV, gc, hw, ep', e5', e4', q0, q4, q5, q31, q32⟩
      dsimp only at hw ep' e5' e4' q0 q4 q5 q31 q32
      have hto := hw.ok
      have htg := hw.gone
      try simp only [go_sem, reduceIte, Nat.reduceEqDiff, Nat.reduceAdd, Nat.reduceSub, Nat.reduceMul, Nat.reduceLT, Nat.reduceLeDiff, Nat.reducePow, Int.reduceToNat, Int.reduceLT, Int.reduceLE, Int.reduceEq, Int.reduceNe, Int.reduceAdd, Int.reduceSub, Int.reduceMul, Int.reduceNeg, q0, q4, q5, q31, q32]
      refine cd_dec (fun g => ?_) (fun g => ?_)
      · have wj := wrap_i64 (x := (j : Int) + 1) (by omega) (by omega)
        obtain ⟨n', hn'⟩ : ∃ n', n - j = n' + 1 := ⟨n - j - 1, by omega⟩
        rw [hn', valsF] at hV
        have gv1 := oneF_ge (b := b) (m := 1) gc
        have gv2 := nxS_ge (b := b) gv1
        have gv3 := txtF_ge (b := b) gv2
        have hv := hv1 st gc
        have hw8 := oneF_lt hb 1 st
        obtain ⟨⟨x1, t1⟩, hx1⟩ : ∃ x, oneF b 1 st = x := ⟨_, rfl⟩
        rw [hx1] at hv hV gv1 gv2 gv3 hw8
        try simp only [go_sem, reduceIte, Nat.reduceEqDiff, Nat.reduceAdd, Nat.reduceSub, Nat.reduceMul, Nat.reduceLT, Nat.reduceLeDiff, Nat.reducePow, Int.reduceToNat, Int.reduceLT, Int.reduceLE, Int.reduceEq, Int.reduceNe, Int.reduceAdd, Int.reduceSub, Int.reduceMul, Int.reduceNeg, q0, q4, q5, q31, q32]
        refine cK_vp hv ep' ?_
        try simp only [go_sem, reduceIte, Nat.reduceEqDiff, Nat.reduceAdd, Nat.reduceSub, Nat.reduceMul, Nat.reduceLT, Nat.reduceLeDiff, Nat.reducePow, Int.reduceToNat, Int.reduceLT, Int.reduceLE, Int.reduceEq, Int.reduceNe, Int.reduceAdd, Int.reduceSub, Int.reduceMul, Int.reduceNeg, q0, q4, q5, q31, q32]
        generalize hβ1 : Heap.set β p _ = β1
        have ep' := hit_set hβ1
        have e4' := keep_ne hβ1 (by simp [N]) e4'
        have e5' := keep_ne hβ1 (by simp [N]) e5'
        clear hβ1
        have N := And.intro N trivial
        refine new_any fun b6 hb6 => ?_
        have N := And.intro N (box_ne hb6 ep')
        have N := And.intro N (box_ne hb6 e4')
        have N := And.intro N (box_ne hb6 e5')
        try simp only [go_sem, reduceIte, Nat.reduceEqDiff, Nat.reduceAdd, Nat.reduceSub, Nat.reduceMul, Nat.reduceLT, Nat.reduceLeDiff, Nat.reducePow, Int.reduceToNat, Int.reduceLT, Int.reduceLE, Int.reduceEq, Int.reduceNe, Int.reduceAdd, Int.reduceSub, Int.reduceMul, Int.reduceNeg, N]
        refine cK_vp (hnS t1) (by simp only [Heap.set, N, if_false]; exact ep') ?_
        try simp only [go_sem, reduceIte, Nat.reduceEqDiff, Nat.reduceAdd, Nat.reduceSub, Nat.reduceMul, Nat.reduceLT, Nat.reduceLeDiff, Nat.reducePow, Int.reduceToNat, Int.reduceLT, Int.reduceLE, Int.reduceEq, Int.reduceNe, Int.reduceAdd, Int.reduceSub, Int.reduceMul, Int.reduceNeg, N, q0, q5]
        refine cK_vp (htx (nxS b t1).2) (by simp [Heap.set, N]) ?_
        try simp only [go_sem, reduceIte, Nat.reduceEqDiff, Nat.reduceAdd, Nat.reduceSub, Nat.reduceMul, Nat.reduceLT, Nat.reduceLeDiff, Nat.reducePow, Int.reduceToNat, Int.reduceLT, Int.reduceLE, Int.reduceEq, Int.reduceNe, Int.reduceAdd, Int.reduceSub, Int.reduceMul, Int.reduceNeg, N, q0, q5, e5', hto, htg, wj]
        refine ⟨fun x hx => ?_, by simp only [List.length_map]; omega, fun t' _ => ⟨⟨j + 1, l ++ [⟨decide (x1 = 1), (nxS b t1).1, (txtF b (nxS b t1).2).1⟩], (txtF b (nxS b t1).2).2, .live t' 3, by omega, by simp [hl], ?_, gv3, TW.live 3 t', ?_, ?_, ?_, ?_⟩, by omega⟩⟩
        · obtain ⟨y, _, rfl⟩ := List.mem_map.1 hx
          rfl
        · rw [show n - (j + 1) = n' by omega]; exact hV
        · simp [Heap.set, N]
        · simp [Vl.d, Vl.cells]; omega
        · first | exact e4' | (simp only [Heap.set, N, if_false]; exact e4')
        · simp
      · try simp only [go_sem, reduceIte, Nat.reduceEqDiff, Nat.reduceAdd, Nat.reduceSub, Nat.reduceMul, Nat.reduceLT, Nat.reduceLeDiff, Nat.reducePow, Int.reduceToNat, Int.reduceLT, Int.reduceLE, Int.reduceEq, Int.reduceNe, Int.reduceAdd, Int.reduceSub, Int.reduceMul, Int.reduceNeg, q0, q4, q5, q31, q32, e5', e4']
        obtain rfl : j = n := by omega
        rw [Nat.sub_self, valsF] at hV
        subst hV
        refine finK_vp (by simp only [Heap.set, N, if_true, if_false]; rw [hR2]; exact ep') (by rw [hR2]; rfl)
    · try simp only [go_sem, reduceIte, Nat.reduceEqDiff, Nat.reduceAdd, Nat.reduceSub, Nat.reduceMul, Nat.reduceLT, Nat.reduceLeDiff, Nat.reducePow, Int.reduceToNat, Int.reduceLT, Int.reduceLE, Int.reduceEq, Int.reduceNe, Int.reduceAdd, Int.reduceSub, Int.reduceMul, Int.reduceNeg, N]
      refine cK_vp (htx i.2) (by simp [Heap.set, N]) ?_
      try simp only [go_sem, reduceIte, Nat.reduceEqDiff, Nat.reduceAdd, Nat.reduceSub, Nat.reduceMul, Nat.reduceLT, Nat.reduceLeDiff, Nat.reducePow, Int.reduceToNat, Int.reduceLT, Int.reduceLE, Int.reduceEq, Int.reduceNe, Int.reduceAdd, Int.reduceSub, Int.reduceMul, Int.reduceNeg, N, e4]
      refine finK_vp (by simp only [Heap.set, N, if_true, if_false]; rw [← hR']; rfl) (by rw [← hR']; rfl)
    · try simp only [go_sem, reduceIte, Nat.reduceEqDiff, Nat.reduceAdd, Nat.reduceSub, Nat.reduceMul, Nat.reduceLT, Nat.reduceLeDiff, Nat.reducePow, Int.reduceToNat, Int.reduceLT, Int.reduceLE, Int.reduceEq, Int.reduceNe, Int.reduceAdd, Int.reduceSub, Int.reduceMul, Int.reduceNeg, N, e4]
      refine finK_vp (by simp only [Heap.set, N, if_true, if_false]; rw [← hR']; rfl) (by rw [← hR']; rfl)
  · rw [if_neg ka] at hi
    subst hi
    try simp only [go_sem, reduceIte, Nat.reduceEqDiff, Nat.reduceAdd, Nat.reduceSub, Nat.reduceMul, Nat.reduceLT, Nat.reduceLeDiff, Nat.reducePow, Int.reduceToNat, Int.reduceLT, Int.reduceLE, Int.reduceEq, Int.reduceNe, Int.reduceAdd, Int.reduceSub, Int.reduceMul, Int.reduceNeg, N, ka, e5]
    by_cases h567 : o = 5 ∨ o = 6 ∨ o = 7
    · have gc := cntF_ge (b := b) gi
      have hc16 := cntF_le (b := b) (s := s1)
      have hce := cntF_err (b := b) (s := s1)
      have hc1 := hct s1
      obtain ⟨c, hc⟩ : ∃ c, cntF b s1 = c := ⟨_, rfl⟩
      dsimp only at gc
      rw [hc] at gc hc16 hc1 hce
      obtain ⟨n, s2⟩ := c
      dsimp only at gc hc16 hc1 hce
      obtain ⟨s3, hs3⟩ : ∃ s3, failS s2 5 (decide (o = 7) && decide (n ≠ 1)) = s3 := ⟨_, rfl⟩
      obtain ⟨s4, hs4⟩ : ∃ s4, failS s3 2 (decide (0 < n) && decide (m < 2)) = s4 := ⟨_, rfl⟩
      have hf1 := hfl s2 5 (decide (o = 7) && decide (n ≠ 1))
      have hf2 := hfl s3 2 (decide (0 < n) && decide (m < 2))
      rw [hs3] at hf1
      rw [hs4] at hf2
      have g3 : 0 ≤ s3.1 := by rw [← hs3]; exact failS_ge gc
      have g4 : 0 ≤ s4.1 := by rw [← hs4]; exact failS_ge g3
      obtain ⟨V, hV⟩ : ∃ V, kidsF rd n [] s4 = V := ⟨_, rfl⟩
      have hR2 : R = (.mk o 0 0 0 [] ByteArray.empty V.1, V.2) := by
        rw [← hR', ← hV, ← hs4, ← hs3]
        have d1 : ¬o = 1 := fun h => ka (by rw [h]; rfl)
        have d2 : ¬o = 2 := fun h => ka (by rw [h]; rfl)
        have d3 : ¬o = 3 := fun h => ka (by rw [h]; rfl)
        simp only [if_neg d1, if_neg d2, if_neg d3, if_pos h567, hc]
      clear hR' hR
      have hm2 : 0 < n → m < 2 → s4.2 ≠ 0 := by
        intro h1 h2 h3
        rw [← hs4] at h3
        unfold failS at h3
        split at h3
        · cases h3
        · rename_i h; exact h ⟨h3, by simp [h1, h2]⟩
      have e2 : decide (0 < (n : Int) ∧ (m : Int) < 2) = (decide (0 < n) && decide (m < 2)) := by
        rw [← Bool.decide_and]; exact decide_eq_decide.2 (by omega)
      have e7 : decide ((n : Int) ≠ 1) = (decide ((7 : Nat) = 7) && decide (n ≠ 1)) := by
        rw [← Bool.decide_and]; exact decide_eq_decide.2 (by omega)
      rcases h567 with rfl | rfl | rfl
      · try simp only [go_sem, reduceIte, Nat.reduceEqDiff, Nat.reduceAdd, Nat.reduceSub, Nat.reduceMul, Nat.reduceLT, Nat.reduceLeDiff, Nat.reducePow, Int.reduceToNat, Int.reduceLT, Int.reduceLE, Int.reduceEq, Int.reduceNe, Int.reduceAdd, Int.reduceSub, Int.reduceMul, Int.reduceNeg, N]
        refine cK_vp hc1 ep ?_
        try simp only [go_sem, reduceIte, Nat.reduceEqDiff, Nat.reduceAdd, Nat.reduceSub, Nat.reduceMul, Nat.reduceLT, Nat.reduceLeDiff, Nat.reducePow, Int.reduceToNat, Int.reduceLT, Int.reduceLE, Int.reduceEq, Int.reduceNe, Int.reduceAdd, Int.reduceSub, Int.reduceMul, Int.reduceNeg, N, e5]
        refine cK_vp hf1 (hit_set rfl) ?_
        try simp only [go_sem, reduceIte, Nat.reduceEqDiff, Nat.reduceAdd, Nat.reduceSub, Nat.reduceMul, Nat.reduceLT, Nat.reduceLeDiff, Nat.reducePow, Int.reduceToNat, Int.reduceLT, Int.reduceLE, Int.reduceEq, Int.reduceNe, Int.reduceAdd, Int.reduceSub, Int.reduceMul, Int.reduceNeg, N]
        rw [e2]
        refine cK_vp hf2 (hit_set rfl) ?_
        try simp only [go_sem, reduceIte, Nat.reduceEqDiff, Nat.reduceAdd, Nat.reduceSub, Nat.reduceMul, Nat.reduceLT, Nat.reduceLeDiff, Nat.reducePow, Int.reduceToNat, Int.reduceLT, Int.reduceLE, Int.reduceEq, Int.reduceNe, Int.reduceAdd, Int.reduceSub, Int.reduceMul, Int.reduceNeg, N]
        refine vwq_loop (fun v => ∃ (j : Nat) (l : List Pr) (st : Sc) (t : Tk), j ≤ n ∧ l.length = j ∧ kidsF rd (n - j) l st = V ∧ 0 ≤ st.1 ∧ (j < n → m < 2 → st.2 ≠ 0) ∧ TW 7 t v.ω ∧ v.β p = some (scC tk b st) ∧ v.β b5 = some [.int .i64 5, .int .i64 0, .int .i64 0, .int .i64 0, .sl .full [], .str ByteArray.empty, .sl t (l.map Pr.d)] ∧ v.β b4 = some [.int .i64 0, .int .i64 0, .int .i64 0, .int .i64 0, .sl .full [], .str ByteArray.empty, .sl .full []] ∧ v.σ 0 = .pb p 0 ∧ v.σ 1 = .int .i64 m ∧ v.σ 4 = .pb b4 0 ∧ v.σ 5 = .pb b5 0 ∧ v.σ 79 = .int .i64 n ∧ v.σ 80 = .int .i64 j) (fun v => n - (ival (v.σ 80)).toNat) ⟨0, [], s4, .full, by omega, rfl, hV, g4, (fun h => hm2 h), TW.full 7, by simp [Heap.set], by simp only [Heap.set, N, if_false]; exact e5, by simp only [Heap.set, N, if_false]; exact e4, rfl, rfl, rfl, rfl, rfl, rfl⟩ ?_
        clear hV hm2
        rintro σ β ω ⟨j, l, st, t, hj, hl, hV, gc, hm2, hw, ep', e5', e4', q0, q1, q4, q5, q79, q80⟩
        dsimp only at hw ep' e5' e4' q0 q1 q4 q5 q79 q80
        have hto := hw.ok
        have htg := hw.gone
        try simp only [go_sem, reduceIte, Nat.reduceEqDiff, Nat.reduceAdd, Nat.reduceSub, Nat.reduceMul, Nat.reduceLT, Nat.reduceLeDiff, Nat.reducePow, Int.reduceToNat, Int.reduceLT, Int.reduceLE, Int.reduceEq, Int.reduceNe, Int.reduceAdd, Int.reduceSub, Int.reduceMul, Int.reduceNeg, q0, q1, q4, q5, q79, q80]
        refine cd_dec (fun g => ?_) (fun g => ?_)
        · have wj := wrap_i64 (x := (j : Int) + 1) (by omega) (by omega)
          have wm := wrap_i64 (x := (m : Int) - 1) (by omega) (by omega)
          obtain ⟨n', hn'⟩ : ∃ n', n - j = n' + 1 := ⟨n - j - 1, by omega⟩
          rw [hn', kidsF] at hV
          try simp only [go_sem, reduceIte, Nat.reduceEqDiff, Nat.reduceAdd, Nat.reduceSub, Nat.reduceMul, Nat.reduceLT, Nat.reduceLeDiff, Nat.reducePow, Int.reduceToNat, Int.reduceLT, Int.reduceLE, Int.reduceEq, Int.reduceNe, Int.reduceAdd, Int.reduceSub, Int.reduceMul, Int.reduceNeg, q0, q1, q4, q5, q79, q80, ep', scC]
          refine cd_dec (fun k => ?_) (fun k => ?_)
          · rw [if_neg k] at hV
            try simp only [go_sem, reduceIte, Nat.reduceEqDiff, Nat.reduceAdd, Nat.reduceSub, Nat.reduceMul, Nat.reduceLT, Nat.reduceLeDiff, Nat.reducePow, Int.reduceToNat, Int.reduceLT, Int.reduceLE, Int.reduceEq, Int.reduceNe, Int.reduceAdd, Int.reduceSub, Int.reduceMul, Int.reduceNeg, q0, q1, q4, q5, q79, q80, e5', e4']
            subst hV
            refine finK_vp (by simp only [Heap.set, N, if_true, if_false]; rw [hR2]; exact ep') (by rw [hR2]; rfl)
          · have k' : st.2 = 0 := Decidable.not_not.1 k
            rw [if_pos k'] at hV
            have hm : 2 ≤ m := Nat.le_of_not_lt fun h => hm2 (by omega) h k'
            obtain ⟨hr1, hr2⟩ := hrd hm st gc
            try simp only [go_sem, reduceIte, Nat.reduceEqDiff, Nat.reduceAdd, Nat.reduceSub, Nat.reduceMul, Nat.reduceLT, Nat.reduceLeDiff, Nat.reducePow, Int.reduceToNat, Int.reduceLT, Int.reduceLE, Int.reduceEq, Int.reduceNe, Int.reduceAdd, Int.reduceSub, Int.reduceMul, Int.reduceNeg, q0, q1, q4, q5, q79, q80, e5', wm]
            refine cE_vp hr1 ep' (fun b' h => by simp [rdAdd] at h; rw [h]; simp [N]) ?_
            try simp only [go_sem, reduceIte, Nat.reduceEqDiff, Nat.reduceAdd, Nat.reduceSub, Nat.reduceMul, Nat.reduceLT, Nat.reduceLeDiff, Nat.reducePow, Int.reduceToNat, Int.reduceLT, Int.reduceLE, Int.reduceEq, Int.reduceNe, Int.reduceAdd, Int.reduceSub, Int.reduceMul, Int.reduceNeg, N, q0, q5, q79, q80, e5', hto, htg, wj]
            refine ⟨fun x hx => ?_, by simp only [List.length_map]; omega, fun t' _ => ⟨by simp [rdAdd], ⟨j + 1, l ++ [(rd st).1], (rd st).2, .live t' 7, by omega, by simp [hl], ?_, hr2, fun _ h => absurd h (by omega), TW.live 7 t', ?_, ?_, ?_, ?_⟩, by omega⟩⟩
            · obtain ⟨y, _, rfl⟩ := List.mem_map.1 hx
              cases y; rfl
            · rw [show n - (j + 1) = n' by omega]; exact hV
            · simp [Heap.set, N, scC]
            · rw [List.map_append, List.map_cons, List.map_nil, Pr.d_eq]
            · first | exact e4' | (simp only [Heap.set, N, if_false]; exact e4')
            · simp
        · try simp only [go_sem, reduceIte, Nat.reduceEqDiff, Nat.reduceAdd, Nat.reduceSub, Nat.reduceMul, Nat.reduceLT, Nat.reduceLeDiff, Nat.reducePow, Int.reduceToNat, Int.reduceLT, Int.reduceLE, Int.reduceEq, Int.reduceNe, Int.reduceAdd, Int.reduceSub, Int.reduceMul, Int.reduceNeg, q0, q1, q4, q5, q79, q80, e5', e4']
          obtain rfl : j = n := by omega
          rw [Nat.sub_self, kidsF] at hV
          subst hV
          refine finK_vp (by simp only [Heap.set, N, if_true, if_false]; rw [hR2]; exact ep') (by rw [hR2]; rfl)
      · try simp only [go_sem, reduceIte, Nat.reduceEqDiff, Nat.reduceAdd, Nat.reduceSub, Nat.reduceMul, Nat.reduceLT, Nat.reduceLeDiff, Nat.reducePow, Int.reduceToNat, Int.reduceLT, Int.reduceLE, Int.reduceEq, Int.reduceNe, Int.reduceAdd, Int.reduceSub, Int.reduceMul, Int.reduceNeg, N]
        refine cK_vp hc1 ep ?_
        try simp only [go_sem, reduceIte, Nat.reduceEqDiff, Nat.reduceAdd, Nat.reduceSub, Nat.reduceMul, Nat.reduceLT, Nat.reduceLeDiff, Nat.reducePow, Int.reduceToNat, Int.reduceLT, Int.reduceLE, Int.reduceEq, Int.reduceNe, Int.reduceAdd, Int.reduceSub, Int.reduceMul, Int.reduceNeg, N, e5]
        refine cK_vp hf1 (hit_set rfl) ?_
        try simp only [go_sem, reduceIte, Nat.reduceEqDiff, Nat.reduceAdd, Nat.reduceSub, Nat.reduceMul, Nat.reduceLT, Nat.reduceLeDiff, Nat.reducePow, Int.reduceToNat, Int.reduceLT, Int.reduceLE, Int.reduceEq, Int.reduceNe, Int.reduceAdd, Int.reduceSub, Int.reduceMul, Int.reduceNeg, N]
        rw [e2]
        refine cK_vp hf2 (hit_set rfl) ?_
        try simp only [go_sem, reduceIte, Nat.reduceEqDiff, Nat.reduceAdd, Nat.reduceSub, Nat.reduceMul, Nat.reduceLT, Nat.reduceLeDiff, Nat.reducePow, Int.reduceToNat, Int.reduceLT, Int.reduceLE, Int.reduceEq, Int.reduceNe, Int.reduceAdd, Int.reduceSub, Int.reduceMul, Int.reduceNeg, N]
        refine vwq_loop (fun v => ∃ (j : Nat) (l : List Pr) (st : Sc) (t : Tk), j ≤ n ∧ l.length = j ∧ kidsF rd (n - j) l st = V ∧ 0 ≤ st.1 ∧ (j < n → m < 2 → st.2 ≠ 0) ∧ TW 7 t v.ω ∧ v.β p = some (scC tk b st) ∧ v.β b5 = some [.int .i64 6, .int .i64 0, .int .i64 0, .int .i64 0, .sl .full [], .str ByteArray.empty, .sl t (l.map Pr.d)] ∧ v.β b4 = some [.int .i64 0, .int .i64 0, .int .i64 0, .int .i64 0, .sl .full [], .str ByteArray.empty, .sl .full []] ∧ v.σ 0 = .pb p 0 ∧ v.σ 1 = .int .i64 m ∧ v.σ 4 = .pb b4 0 ∧ v.σ 5 = .pb b5 0 ∧ v.σ 79 = .int .i64 n ∧ v.σ 80 = .int .i64 j) (fun v => n - (ival (v.σ 80)).toNat) ⟨0, [], s4, .full, by omega, rfl, hV, g4, (fun h => hm2 h), TW.full 7, by simp [Heap.set], by simp only [Heap.set, N, if_false]; exact e5, by simp only [Heap.set, N, if_false]; exact e4, rfl, rfl, rfl, rfl, rfl, rfl⟩ ?_
        clear hV hm2
        rintro σ β ω ⟨j, l, st, t, hj, hl, hV, gc, hm2, hw, ep', e5', e4', q0, q1, q4, q5, q79, q80⟩
        dsimp only at hw ep' e5' e4' q0 q1 q4 q5 q79 q80
        have hto := hw.ok
        have htg := hw.gone
        try simp only [go_sem, reduceIte, Nat.reduceEqDiff, Nat.reduceAdd, Nat.reduceSub, Nat.reduceMul, Nat.reduceLT, Nat.reduceLeDiff, Nat.reducePow, Int.reduceToNat, Int.reduceLT, Int.reduceLE, Int.reduceEq, Int.reduceNe, Int.reduceAdd, Int.reduceSub, Int.reduceMul, Int.reduceNeg, q0, q1, q4, q5, q79, q80]
        refine cd_dec (fun g => ?_) (fun g => ?_)
        · have wj := wrap_i64 (x := (j : Int) + 1) (by omega) (by omega)
          have wm := wrap_i64 (x := (m : Int) - 1) (by omega) (by omega)
          obtain ⟨n', hn'⟩ : ∃ n', n - j = n' + 1 := ⟨n - j - 1, by omega⟩
          rw [hn', kidsF] at hV
          try simp only [go_sem, reduceIte, Nat.reduceEqDiff, Nat.reduceAdd, Nat.reduceSub, Nat.reduceMul, Nat.reduceLT, Nat.reduceLeDiff, Nat.reducePow, Int.reduceToNat, Int.reduceLT, Int.reduceLE, Int.reduceEq, Int.reduceNe, Int.reduceAdd, Int.reduceSub, Int.reduceMul, Int.reduceNeg, q0, q1, q4, q5, q79, q80, ep', scC]
          refine cd_dec (fun k => ?_) (fun k => ?_)
          · rw [if_neg k] at hV
            try simp only [go_sem, reduceIte, Nat.reduceEqDiff, Nat.reduceAdd, Nat.reduceSub, Nat.reduceMul, Nat.reduceLT, Nat.reduceLeDiff, Nat.reducePow, Int.reduceToNat, Int.reduceLT, Int.reduceLE, Int.reduceEq, Int.reduceNe, Int.reduceAdd, Int.reduceSub, Int.reduceMul, Int.reduceNeg, q0, q1, q4, q5, q79, q80, e5', e4']
            subst hV
            refine finK_vp (by simp only [Heap.set, N, if_true, if_false]; rw [hR2]; exact ep') (by rw [hR2]; rfl)
          · have k' : st.2 = 0 := Decidable.not_not.1 k
            rw [if_pos k'] at hV
            have hm : 2 ≤ m := Nat.le_of_not_lt fun h => hm2 (by omega) h k'
            obtain ⟨hr1, hr2⟩ := hrd hm st gc
            try simp only [go_sem, reduceIte, Nat.reduceEqDiff, Nat.reduceAdd, Nat.reduceSub, Nat.reduceMul, Nat.reduceLT, Nat.reduceLeDiff, Nat.reducePow, Int.reduceToNat, Int.reduceLT, Int.reduceLE, Int.reduceEq, Int.reduceNe, Int.reduceAdd, Int.reduceSub, Int.reduceMul, Int.reduceNeg, q0, q1, q4, q5, q79, q80, e5', wm]
            refine cE_vp hr1 ep' (fun b' h => by simp [rdAdd] at h; rw [h]; simp [N]) ?_
            try simp only [go_sem, reduceIte, Nat.reduceEqDiff, Nat.reduceAdd, Nat.reduceSub, Nat.reduceMul, Nat.reduceLT, Nat.reduceLeDiff, Nat.reducePow, Int.reduceToNat, Int.reduceLT, Int.reduceLE, Int.reduceEq, Int.reduceNe, Int.reduceAdd, Int.reduceSub, Int.reduceMul, Int.reduceNeg, N, q0, q5, q79, q80, e5', hto, htg, wj]
            refine ⟨fun x hx => ?_, by simp only [List.length_map]; omega, fun t' _ => ⟨by simp [rdAdd], ⟨j + 1, l ++ [(rd st).1], (rd st).2, .live t' 7, by omega, by simp [hl], ?_, hr2, fun _ h => absurd h (by omega), TW.live 7 t', ?_, ?_, ?_, ?_⟩, by omega⟩⟩
            · obtain ⟨y, _, rfl⟩ := List.mem_map.1 hx
              cases y; rfl
            · rw [show n - (j + 1) = n' by omega]; exact hV
            · simp [Heap.set, N, scC]
            · rw [List.map_append, List.map_cons, List.map_nil, Pr.d_eq]
            · first | exact e4' | (simp only [Heap.set, N, if_false]; exact e4')
            · simp
        · try simp only [go_sem, reduceIte, Nat.reduceEqDiff, Nat.reduceAdd, Nat.reduceSub, Nat.reduceMul, Nat.reduceLT, Nat.reduceLeDiff, Nat.reducePow, Int.reduceToNat, Int.reduceLT, Int.reduceLE, Int.reduceEq, Int.reduceNe, Int.reduceAdd, Int.reduceSub, Int.reduceMul, Int.reduceNeg, q0, q1, q4, q5, q79, q80, e5', e4']
          obtain rfl : j = n := by omega
          rw [Nat.sub_self, kidsF] at hV
          subst hV
          refine finK_vp (by simp only [Heap.set, N, if_true, if_false]; rw [hR2]; exact ep') (by rw [hR2]; rfl)
      · try simp only [go_sem, reduceIte, Nat.reduceEqDiff, Nat.reduceAdd, Nat.reduceSub, Nat.reduceMul, Nat.reduceLT, Nat.reduceLeDiff, Nat.reducePow, Int.reduceToNat, Int.reduceLT, Int.reduceLE, Int.reduceEq, Int.reduceNe, Int.reduceAdd, Int.reduceSub, Int.reduceMul, Int.reduceNeg, N]
        refine cK_vp hc1 ep ?_
        try simp only [go_sem, reduceIte, Nat.reduceEqDiff, Nat.reduceAdd, Nat.reduceSub, Nat.reduceMul, Nat.reduceLT, Nat.reduceLeDiff, Nat.reducePow, Int.reduceToNat, Int.reduceLT, Int.reduceLE, Int.reduceEq, Int.reduceNe, Int.reduceAdd, Int.reduceSub, Int.reduceMul, Int.reduceNeg, N, e5]
        rw [e7]
        refine cK_vp hf1 (hit_set rfl) ?_
        try simp only [go_sem, reduceIte, Nat.reduceEqDiff, Nat.reduceAdd, Nat.reduceSub, Nat.reduceMul, Nat.reduceLT, Nat.reduceLeDiff, Nat.reducePow, Int.reduceToNat, Int.reduceLT, Int.reduceLE, Int.reduceEq, Int.reduceNe, Int.reduceAdd, Int.reduceSub, Int.reduceMul, Int.reduceNeg, N]
        rw [e2]
        refine cK_vp hf2 (hit_set rfl) ?_
        try simp only [go_sem, reduceIte, Nat.reduceEqDiff, Nat.reduceAdd, Nat.reduceSub, Nat.reduceMul, Nat.reduceLT, Nat.reduceLeDiff, Nat.reducePow, Int.reduceToNat, Int.reduceLT, Int.reduceLE, Int.reduceEq, Int.reduceNe, Int.reduceAdd, Int.reduceSub, Int.reduceMul, Int.reduceNeg, N]
        refine vwq_loop (fun v => ∃ (j : Nat) (l : List Pr) (st : Sc) (t : Tk), j ≤ n ∧ l.length = j ∧ kidsF rd (n - j) l st = V ∧ 0 ≤ st.1 ∧ (j < n → m < 2 → st.2 ≠ 0) ∧ TW 7 t v.ω ∧ v.β p = some (scC tk b st) ∧ v.β b5 = some [.int .i64 7, .int .i64 0, .int .i64 0, .int .i64 0, .sl .full [], .str ByteArray.empty, .sl t (l.map Pr.d)] ∧ v.β b4 = some [.int .i64 0, .int .i64 0, .int .i64 0, .int .i64 0, .sl .full [], .str ByteArray.empty, .sl .full []] ∧ v.σ 0 = .pb p 0 ∧ v.σ 1 = .int .i64 m ∧ v.σ 4 = .pb b4 0 ∧ v.σ 5 = .pb b5 0 ∧ v.σ 79 = .int .i64 n ∧ v.σ 80 = .int .i64 j) (fun v => n - (ival (v.σ 80)).toNat) ⟨0, [], s4, .full, by omega, rfl, hV, g4, (fun h => hm2 h), TW.full 7, by simp [Heap.set], by simp only [Heap.set, N, if_false]; exact e5, by simp only [Heap.set, N, if_false]; exact e4, rfl, rfl, rfl, rfl, rfl, rfl⟩ ?_
        clear hV hm2
        rintro σ β ω ⟨j, l, st, t, hj, hl, hV, gc, hm2, hw, ep', e5', e4', q0, q1, q4, q5, q79, q80⟩
        dsimp only at hw ep' e5' e4' q0 q1 q4 q5 q79 q80
        have hto := hw.ok
        have htg := hw.gone
        try simp only [go_sem, reduceIte, Nat.reduceEqDiff, Nat.reduceAdd, Nat.reduceSub, Nat.reduceMul, Nat.reduceLT, Nat.reduceLeDiff, Nat.reducePow, Int.reduceToNat, Int.reduceLT, Int.reduceLE, Int.reduceEq, Int.reduceNe, Int.reduceAdd, Int.reduceSub, Int.reduceMul, Int.reduceNeg, q0, q1, q4, q5, q79, q80]
        refine cd_dec (fun g => ?_) (fun g => ?_)
        · have wj := wrap_i64 (x := (j : Int) + 1) (by omega) (by omega)
          have wm := wrap_i64 (x := (m : Int) - 1) (by omega) (by omega)
          obtain ⟨n', hn'⟩ : ∃ n', n - j = n' + 1 := ⟨n - j - 1, by omega⟩
          rw [hn', kidsF] at hV
          try simp only [go_sem, reduceIte, Nat.reduceEqDiff, Nat.reduceAdd, Nat.reduceSub, Nat.reduceMul, Nat.reduceLT, Nat.reduceLeDiff, Nat.reducePow, Int.reduceToNat, Int.reduceLT, Int.reduceLE, Int.reduceEq, Int.reduceNe, Int.reduceAdd, Int.reduceSub, Int.reduceMul, Int.reduceNeg, q0, q1, q4, q5, q79, q80, ep', scC]
          refine cd_dec (fun k => ?_) (fun k => ?_)
          · rw [if_neg k] at hV
            try simp only [go_sem, reduceIte, Nat.reduceEqDiff, Nat.reduceAdd, Nat.reduceSub, Nat.reduceMul, Nat.reduceLT, Nat.reduceLeDiff, Nat.reducePow, Int.reduceToNat, Int.reduceLT, Int.reduceLE, Int.reduceEq, Int.reduceNe, Int.reduceAdd, Int.reduceSub, Int.reduceMul, Int.reduceNeg, q0, q1, q4, q5, q79, q80, e5', e4']
            subst hV
            refine finK_vp (by simp only [Heap.set, N, if_true, if_false]; rw [hR2]; exact ep') (by rw [hR2]; rfl)
          · have k' : st.2 = 0 := Decidable.not_not.1 k
            rw [if_pos k'] at hV
            have hm : 2 ≤ m := Nat.le_of_not_lt fun h => hm2 (by omega) h k'
            obtain ⟨hr1, hr2⟩ := hrd hm st gc
            try simp only [go_sem, reduceIte, Nat.reduceEqDiff, Nat.reduceAdd, Nat.reduceSub, Nat.reduceMul, Nat.reduceLT, Nat.reduceLeDiff, Nat.reducePow, Int.reduceToNat, Int.reduceLT, Int.reduceLE, Int.reduceEq, Int.reduceNe, Int.reduceAdd, Int.reduceSub, Int.reduceMul, Int.reduceNeg, q0, q1, q4, q5, q79, q80, e5', wm]
            refine cE_vp hr1 ep' (fun b' h => by simp [rdAdd] at h; rw [h]; simp [N]) ?_
            try simp only [go_sem, reduceIte, Nat.reduceEqDiff, Nat.reduceAdd, Nat.reduceSub, Nat.reduceMul, Nat.reduceLT, Nat.reduceLeDiff, Nat.reducePow, Int.reduceToNat, Int.reduceLT, Int.reduceLE, Int.reduceEq, Int.reduceNe, Int.reduceAdd, Int.reduceSub, Int.reduceMul, Int.reduceNeg, N, q0, q5, q79, q80, e5', hto, htg, wj]
            refine ⟨fun x hx => ?_, by simp only [List.length_map]; omega, fun t' _ => ⟨by simp [rdAdd], ⟨j + 1, l ++ [(rd st).1], (rd st).2, .live t' 7, by omega, by simp [hl], ?_, hr2, fun _ h => absurd h (by omega), TW.live 7 t', ?_, ?_, ?_, ?_⟩, by omega⟩⟩
            · obtain ⟨y, _, rfl⟩ := List.mem_map.1 hx
              cases y; rfl
            · rw [show n - (j + 1) = n' by omega]; exact hV
            · simp [Heap.set, N, scC]
            · rw [List.map_append, List.map_cons, List.map_nil, Pr.d_eq]
            · first | exact e4' | (simp only [Heap.set, N, if_false]; exact e4')
            · simp
        · try simp only [go_sem, reduceIte, Nat.reduceEqDiff, Nat.reduceAdd, Nat.reduceSub, Nat.reduceMul, Nat.reduceLT, Nat.reduceLeDiff, Nat.reducePow, Int.reduceToNat, Int.reduceLT, Int.reduceLE, Int.reduceEq, Int.reduceNe, Int.reduceAdd, Int.reduceSub, Int.reduceMul, Int.reduceNeg, q0, q1, q4, q5, q79, q80, e5', e4']
          obtain rfl : j = n := by omega
          rw [Nat.sub_self, kidsF] at hV
          subst hV
          refine finK_vp (by simp only [Heap.set, N, if_true, if_false]; rw [hR2]; exact ep') (by rw [hR2]; rfl)
    · have c1 := eq_false (fun h : (o : Int) = 1 => ka (by rw [h]; rfl))
      have c2 := eq_false (fun h : (o : Int) = 2 => ka (by rw [h]; rfl))
      have c3 := eq_false (fun h : (o : Int) = 3 => ka (by rw [h]; rfl))
      have c5 := eq_false (show ¬(o : Int) = 5 by omega)
      have c6 := eq_false (show ¬(o : Int) = 6 by omega)
      have c7 := eq_false (show ¬(o : Int) = 7 by omega)
      try simp only [go_sem, reduceIte, Nat.reduceEqDiff, Nat.reduceAdd, Nat.reduceSub, Nat.reduceMul, Nat.reduceLT, Nat.reduceLeDiff, Nat.reducePow, Int.reduceToNat, Int.reduceLT, Int.reduceLE, Int.reduceEq, Int.reduceNe, Int.reduceAdd, Int.reduceSub, Int.reduceMul, Int.reduceNeg, N, c1, c2, c3, c5, c6, c7, e4, e5, decide_false]
      have ka' : isAt (o : Int) = false := by simpa using ka
      have hR2 : R = (.mk o 0 0 0 [] ByteArray.empty [], s1) := by
        rw [← hR']
        have d1 : ¬o = 1 := fun h => ka (by rw [h]; rfl)
        have d2 : ¬o = 2 := fun h => ka (by rw [h]; rfl)
        have d3 : ¬o = 3 := fun h => ka (by rw [h]; rfl)
        simp only [if_neg d1, if_neg d2, if_neg d3, if_neg h567]
      refine finK_vp (by simp only [Heap.set, N, if_true, if_false]; rw [hR2]; exact ep) (by rw [hR2]; rfl)
theorem predG_ge {b : List Nat} {m : Nat} {rd : Sc → Pr × Sc} (hrd : ∀ s, 0 ≤ s.1 → 0 ≤ (rd s).2.1) {s : Sc} (hs : 0 ≤ s.1) : 0 ≤ (predG b m rd s).2.1 := by
  have hv : ∀ n l (s : Sc), 0 ≤ s.1 → 0 ≤ (valsF b n l s).2.1 := by
    intro n; induction n with
    | zero => intro l s h; exact h
    | succ n ih => intro l s h; exact ih _ _ (txtF_ge (nxS_ge (oneF_ge h)))
  have hk : ∀ n l (s : Sc), 0 ≤ s.1 → 0 ≤ (kidsF rd n l s).2.1 := by
    intro n; induction n with
    | zero => intro l s h; exact h
    | succ n ih =>
      intro l s h; rw [kidsF]; split
      · exact ih _ _ (hrd _ h)
      · exact h
  have g1 := oneF_ge (b := b) (m := 7) hs
  have g2 : 0 ≤ (if isAt (oneF b 7 s).1 then nxS b (oneF b 7 s).2 else (0, (oneF b 7 s).2)).2.1 := by
    split
    · exact nxS_ge g1
    · exact g1
  unfold predG
  dsimp only
  split
  · exact nxS_ge (nxS_ge g2)
  · split
    · exact hv _ _ _ (cntF_ge g2)
    · split
      · exact txtF_ge g2
      · split
        · exact hk _ _ _ (failS_ge (failS_ge (cntF_ge g2)))
        · exact g2
theorem predF_ge {b : List Nat} : ∀ {m : Nat} {s : Sc}, 0 ≤ s.1 → 0 ≤ (predF b m s).2.1
  | 0, _, h => predG_ge (fun _ h => h) h
  | _ + 1, _, h => predG_ge (fun _ h => predF_ge h) h
theorem pred_ok (tk : Tk) (b : List Nat) (hb : Byt b) (hbl : b.length ≤ 1099511627776) : ∀ (m : Nat), m ≤ 100 → ∀ (s : Sc), 0 ≤ s.1 →
    VP P G 85 (fun p => [.pb p 0, .int .i64 m]) (scC tk b s) (.agg (predF b m s).1.cells) (scC tk b (predF b m s).2)
  | 0, hm, s, hs => pred_step tk b hb hbl 0 hm _ (fun h => by omega) s hs
  | m + 1, hm, s, hs => pred_step tk b hb hbl (m + 1) hm _ (fun _ s hs => by
      have := pred_ok tk b hb hbl m (by omega) s hs
      rw [show ((m + 1 : Nat) : Int) - 1 = (m : Int) by omega]
      exact ⟨this, predF_ge hs⟩) s hs
def pDecF (b : List Nat) (at_ : Int) : Pr × Int × Int :=
  if at_ < 0 ∨ (b.length : Int) < at_ then (Pr.nul, 0, 1)
  else let r := predF b 8 (at_, 0); if r.2.2 = 0 then (r.1, r.2.1, 0) else (Pr.nul, 0, r.2.2)
theorem pDecode_ok (tk : Tk) (b : List Nat) (at_ : Int) (hb : Byt b) (hbl : b.length ≤ 1099511627776) :
    VN P G 45 [.sl tk (bs b), .int .i64 at_] (.tup [.agg (pDecF b at_).1.cells, .int .i64 (pDecF b at_).2.1, .int .i64 (pDecF b at_).2.2]) := by
  unfold VN
  refine VC.ofc (fun | 6 => [(0, []), (1, []), (2, []), (3, []), (4, [5]), (5, []), (6, []), (7, [])] | 7 => [(0, []), (1, []), (2, []), (3, []), (4, [5]), (5, []), (6, []), (7, [])] | 99999999 => [(0, [0, 1, 4, 5, 6, 7, 8, 16, 28])] | _ => []) [.cell 4 40, .tmp 5, .tmp 6] mixed Tryz.func45 rfl rfl rfl rfl (by decide +kernel) (by simp) ?_
  have el : (bs b).length = b.length := bs_length b
  simp only [go_sem, reduceIte, Nat.reduceEqDiff, Nat.reduceAdd, Nat.reduceSub, Nat.reduceMul, Nat.reduceLT, Nat.reduceLeDiff, Nat.reducePow, Int.reduceToNat, Int.reduceLT, Int.reduceLE, Int.reduceEq, Int.reduceNe, Int.reduceAdd, Int.reduceSub, Int.reduceMul, Int.reduceNeg]
  intro b4
  refine cd_dec (fun k => ?_) (fun k => ?_)
  · have hF : pDecF b at_ = (Pr.nul, 0, 1) := by rw [pDecF, if_pos k]
    try simp only [go_sem, reduceIte, Nat.reduceEqDiff, Nat.reduceAdd, Nat.reduceSub, Nat.reduceMul, Nat.reduceLT, Nat.reduceLeDiff, Nat.reducePow, Int.reduceToNat, Int.reduceLT, Int.reduceLE, Int.reduceEq, Int.reduceNe, Int.reduceAdd, Int.reduceSub, Int.reduceMul, Int.reduceNeg, el]
    rw [hF]
    exact finK_drop ⟨rfl, rfl, rfl⟩
  · obtain ⟨r, hr⟩ : ∃ r, predF b 8 (at_, 0) = r := ⟨_, rfl⟩
    have h8 := pred_ok (G := G) tk b hb hbl 8 (by omega) (at_, 0) (by dsimp only; omega)
    rw [hr] at h8
    simp only [go_sem, reduceIte, Nat.reduceEqDiff, Nat.reduceAdd, Nat.reduceSub, Nat.reduceMul, Nat.reduceLT, Nat.reduceLeDiff, Nat.reducePow, Int.reduceToNat, Int.reduceLT, Int.reduceLE, Int.reduceEq, Int.reduceNe, Int.reduceAdd, Int.reduceSub, Int.reduceMul, Int.reduceNeg]
    refine new_any fun b5 hb5 => ?_
    have N := box_ne (a := b4) hb5 (hit_set rfl)
    try simp only [go_sem, reduceIte, Nat.reduceEqDiff, Nat.reduceAdd, Nat.reduceSub, Nat.reduceMul, Nat.reduceLT, Nat.reduceLeDiff, Nat.reducePow, Int.reduceToNat, Int.reduceLT, Int.reduceLE, Int.reduceEq, Int.reduceNe, Int.reduceAdd, Int.reduceSub, Int.reduceMul, Int.reduceNeg, N]
    refine cK_vp h8 (hit_set rfl) ?_
    have N := And.intro N trivial
    try simp only [go_sem, reduceIte, Nat.reduceEqDiff, Nat.reduceAdd, Nat.reduceSub, Nat.reduceMul, Nat.reduceLT, Nat.reduceLeDiff, Nat.reducePow, Int.reduceToNat, Int.reduceLT, Int.reduceLE, Int.reduceEq, Int.reduceNe, Int.reduceAdd, Int.reduceSub, Int.reduceMul, Int.reduceNeg, N]
    generalize hβ : Heap.set _ b5 (scC tk b r.2) = β0
    have e5 : β0 b5 = some (scC tk b r.2) := hit_set hβ
    have e4 : β0 b4 = some [.int .i64 0, .int .i64 0, .int .i64 0, .int .i64 0, .sl .full [], .str ByteArray.empty, .sl .full []] := by rw [← hβ]; simp [Heap.set, N]
    clear hβ
    try simp only [go_sem, reduceIte, Nat.reduceEqDiff, Nat.reduceAdd, Nat.reduceSub, Nat.reduceMul, Nat.reduceLT, Nat.reduceLeDiff, Nat.reducePow, Int.reduceToNat, Int.reduceLT, Int.reduceLE, Int.reduceEq, Int.reduceNe, Int.reduceAdd, Int.reduceSub, Int.reduceMul, Int.reduceNeg, N]
    refine new_any fun b6 hb6 => ?_
    have N := And.intro N (box_ne hb6 e4)
    have N := And.intro N (box_ne hb6 e5)
    try simp only [go_sem, reduceIte, Nat.reduceEqDiff, Nat.reduceAdd, Nat.reduceSub, Nat.reduceMul, Nat.reduceLT, Nat.reduceLeDiff, Nat.reducePow, Int.reduceToNat, Int.reduceLT, Int.reduceLE, Int.reduceEq, Int.reduceNe, Int.reduceAdd, Int.reduceSub, Int.reduceMul, Int.reduceNeg, N, e5, scC]
    refine cd_dec (fun k1 => ?_) (fun k1 => ?_)
    · have hF : pDecF b at_ = (Pr.nul, 0, r.2.2) := by
        rw [pDecF, if_neg k]; dsimp only; rw [hr, if_neg k1]
      try simp only [go_sem, reduceIte, Nat.reduceEqDiff, Nat.reduceAdd, Nat.reduceSub, Nat.reduceMul, Nat.reduceLT, Nat.reduceLeDiff, Nat.reducePow, Int.reduceToNat, Int.reduceLT, Int.reduceLE, Int.reduceEq, Int.reduceNe, Int.reduceAdd, Int.reduceSub, Int.reduceMul, Int.reduceNeg, N, e4, e5]
      rw [hF]
      exact ⟨⟨rfl, by simp [scC]⟩, by simp [rdAdd, N], finK_drop ⟨rfl, rfl, rfl⟩⟩
    · have hF : pDecF b at_ = (r.1, r.2.1, 0) := by
        rw [pDecF, if_neg k]; dsimp only; rw [hr, if_pos (Decidable.not_not.1 k1)]
      try simp only [go_sem, reduceIte, Nat.reduceEqDiff, Nat.reduceAdd, Nat.reduceSub, Nat.reduceMul, Nat.reduceLT, Nat.reduceLeDiff, Nat.reducePow, Int.reduceToNat, Int.reduceLT, Int.reduceLE, Int.reduceEq, Int.reduceNe, Int.reduceAdd, Int.reduceSub, Int.reduceMul, Int.reduceNeg, N, e4, e5]
      rw [hF]
      exact ⟨⟨rfl, by simp [scC]⟩, by simp [rdAdd, N], finK_drop ⟨by simp [D.er, D.er1, scC, Pr_er], rfl, rfl⟩⟩
end Go.Proofs.YtpblgfgcoamgmaaGreatS
namespace Go.Proofs.YtpblgfgcoamgmaaGreatV
open Go

variable {P : Program} {G : Heap}

theorem end_marks2 {F : Fence} {k : Nat} {fn : Func} {tmps : Array Value} {R : Ending → World → Prop} {u : FrameMode} (hu : u ≠ .run) {ds : List Deferred} : ∀ (rs : List Nat) (w : World), rs.Nodup → (∀ r ∈ rs, w.heap[r]? = some (.deferred (some []))) →
    (∀ w', (∀ i, i ∉ rs → w'.heap[i]? = w.heap[i]?) → w'.heap.size = w.heap.size → w'.os = w.os → w'.tape = w.tape → w'.output = w.output → LeavesInM F k P fn tmps R ds u w') →
    LeavesInM F k P fn tmps R (rs.map (fun r => { target := .collected r, args := #[] }) ++ ds) u w
  | [], w, _, _, h => h w (fun _ _ => rfl) rfl rfl rfl rfl
  | r :: rs, w, hn, hm, h => by
    simp only [List.nodup_cons] at hn
    refine ⟨hu, .inl ⟨r, _, rfl, run_take (hm r (by simp)), end_marks2 hu rs _ hn.2 (fun q hq => ?_) fun w' h1 h2 h3 h4 h5 => ?_⟩⟩
    · have hne : r ≠ q := fun e => hn.1 (e ▸ hq)
      simp only [Array.getElem?_setIfInBounds, if_neg hne]
      exact hm q (by simp [hq])
    · refine h w' (fun i hi => ?_) (by rw [h2]; simp) h3 h4 h5
      simp only [List.mem_cons, not_or] at hi
      rw [h1 i hi.2]
      simp only [Array.getElem?_setIfInBounds]
      rw [if_neg (fun e => hi.1 e.symm)]

theorem rec_calls {g : FuncId} {gn : Func} {E : Code} {j0 r3 r2 : Nat} {ty1 ty2 : TypeId} {p1 p2 : String} {af1 af2 : Array Edge}
    (hg : P.funcs[g]? = some gn) (hgb : gn.body = some (.seq (.region j0 #[⟨some r3, .call ⟨.builtin .recover, #[], #[]⟩, ty1, p1, af1, none⟩, ⟨some r2, .assign (.tmp r3), ty2, p2, af2, none⟩] false) E))
    (hres : gn.results = #[]) (hfe : fits gn.ntmps E = true) (hnr : noRange E = true) (h3 : r3 < gn.ntmps) (h2 : r2 < gn.ntmps)
    {caps : List D} {vcaps : List Value} {K : Kn} {w : World} {β : Heap} {ω : List Nat} (hlen : caps.length ≤ gn.ntmps) (hr : Rel G K β ω w) (hc : RepL K caps vcaps)
    {u u' : FrameMode} {x : D} {xv : Value} (hx : Rep K x xv)
    (hu : (u = .returning ∧ xv = .nilIface ∧ u' = .returning) ∨ (u = .panicking [{ v := xv, recovered := false }] ∧ u' = .panicking [{ v := xv, recovered := true }]))
    {Q : Heap → List Nat → Prop} (h : vwp vdraw P G E (fun e s => (e = .normal ∨ e = .ret) ∧ Q s.β s.ω) ⟨upd (upd (start caps) r3 x) r2 x, β, ω⟩) :
    CallsDIn Fence.wide 0 P g vcaps.toArray u w (fun e u2 w' => (∃ v, e = .returned v) ∧ u2 = u' ∧ ∃ K' β' ω', Q β' ω' ∧ Rel G K' β' ω' w' ∧ Evo K β ω w K' β' ω' w') := by
  refine callsDIn_of_wpSIn hg hgb trivial fun c₀ cs hcu => ?_
  refine wpSIn_seq (wpSIn_region ?_)
  have hl := hc.length
  generalize ha0 : ({ tmps := vcaps.toArray ++ Array.replicate (gn.ntmps - vcaps.toArray.size) undef, defers := [] } : Act) = a0
  have hsr0 : SR G gn.ntmps ⟨w.heap.size, [], true⟩ K ⟨start caps, β, ω⟩ a0 w := by
    rw [← ha0]
    exact ⟨hr, start_rep hc gn.ntmps, by simp; omega, [], fun _ => rfl, rfl, List.nodup_nil, fun r hr => by simp at hr⟩
  have hsr1 : SR G gn.ntmps ⟨w.heap.size, [], true⟩ K (St.put ⟨start caps, β, ω⟩ (some r3) x) (a0.put (some r3) xv) w := hsr0.put hx fun t ht => by cases ht; exact h3
  have hx2 : Rep K x ((a0.put (some r3) xv).eval (.tmp r3)) := by
    have := hsr1.raw (.tmp r3)
    simpa [St.raw, St.put] using this
  have hsr2 : SR G gn.ntmps ⟨w.heap.size, [], true⟩ K (St.put (St.put ⟨start caps, β, ω⟩ (some r3) x) (some r2) x) ((a0.put (some r3) xv).put (some r2) ((a0.put (some r3) xv).eval (.tmp r3))) w := hsr1.put hx2 fun t ht => by cases ht; exact h2
  have hcs : ∃ cs', cs' = { c₀ with mode := u' } :: cs ∧ ((recoverD (c₀ :: cs) = some (xv, cs')) ∨ (recoverD (c₀ :: cs) = none ∧ xv = .nilIface ∧ cs' = c₀ :: cs)) := by
    rcases hu with ⟨rfl, rfl, rfl⟩ | ⟨rfl, rfl⟩
    · refine ⟨_, rfl, .inr ⟨by simp [recoverD, hcu], rfl, ?_⟩⟩
      cases c₀; simp_all
    · exact ⟨_, rfl, .inl (by simp [recoverD, hcu])⟩
  obtain ⟨cs', hcs', hrec⟩ := hcs
  have hE : E.wpSIn Fence.wide 0 P (bodyPostS P gn c₀ cs fun e u2 w' => (∃ v, e = .returned v) ∧ u2 = u' ∧ ∃ K' β' ω', Q β' ω' ∧ Rel G K' β' ω' w' ∧ Evo K β ω w K' β' ω' w') ((a0.put (some r3) xv).put (some r2) ((a0.put (some r3) xv).eval (.tmp r3))) cs' w := by
    refine wpSIn_of_wpIn rfl (wpIn_mono (vwp_soundR (ro := none) (B := ⟨w.heap.size, [], true⟩) (K0 := K) (β0 := β) (ω0 := ω) (w0 := w) vdraw_sound (Nat.le_refl _) E _ _ K _ w (.inr hnr) hfe h hsr2 (Evo.refl K β ω w)) ?_)
    rintro e a' w' ⟨K', s', ve, ⟨hve, hQ⟩, her, hsr, hev⟩
    obtain ⟨rs, hrs, m1, _, _⟩ := hsr.marks
    have hd : a'.defers = [] := by rw [m1, hrs rfl]; rfl
    obtain ⟨v, v1, _⟩ := results_sound (P := P) (fn := gn) hsr (fun r hr => by rw [hres] at hr; simp at hr)
    have key : a'.defers = [] ∧ ∃ u2, cs' = { c₀ with mode := u2 } :: cs ∧ ∃ v, (results gn a'.tmps).run P w' = .ok v w' ∧ ((∃ v', Ending.returned v = .returned v') ∧ u2 = u' ∧ ∃ K' β' ω', Q β' ω' ∧ Rel G K' β' ω' w' ∧ Evo K β ω w K' β' ω' w') :=
      ⟨hd, u', hcs', v, v1, ⟨v, rfl⟩, rfl, K', _, _, hQ, hsr.rel, hev⟩
    rcases hve with rfl | rfl
    · cases e <;> first
        | exact key
        | exact her.elim
    · cases e <;> first
        | exact key
        | exact her.elim
  have hr0 : List.range (#[(⟨some r3, .call ⟨.builtin .recover, #[], #[]⟩, ty1, p1, af1, none⟩ : Oper), ⟨some r2, .assign (.tmp r3), ty2, p2, af2, none⟩] : Array Oper).size = [0, 1] := rfl
  rw [hr0]
  have run1 : (execOp a0.eval ⟨some r3, .call ⟨.builtin .recover, #[], #[]⟩, ty1, p1, af1, none⟩).run P w = .ok .recover w := by
    simp [execOp, resolve, invoke, builtin, Sem.run_pure]
  have run2 : (execOp (a0.put (some r3) xv).eval ⟨some r2, .assign (.tmp r3), ty2, p2, af2, none⟩).run P w = .ok (.value ((a0.put (some r3) xv).eval (.tmp r3))) w := by
    simp [execOp, Sem.run_pure]
  have g0 : (#[(⟨some r3, .call ⟨.builtin .recover, #[], #[]⟩, ty1, p1, af1, none⟩ : Oper), ⟨some r2, .assign (.tmp r3), ty2, p2, af2, none⟩] : Array Oper)[0]? = some ⟨some r3, .call ⟨.builtin .recover, #[], #[]⟩, ty1, p1, af1, none⟩ := rfl
  have g1 : (#[(⟨some r3, .call ⟨.builtin .recover, #[], #[]⟩, ty1, p1, af1, none⟩ : Oper), ⟨some r2, .assign (.tmp r3), ty2, p2, af2, none⟩] : Array Oper)[1]? = some ⟨some r2, .assign (.tmp r3), ty2, p2, af2, none⟩ := rfl
  have key2 : ∀ q, Region.wanted (⟨some r2, .assign (.tmp r3), ty2, p2, af2, none⟩ : Oper) q = true := fun _ => rfl
  have key1 : ∀ q, Region.wanted (⟨some r3, .call ⟨.builtin .recover, #[], #[]⟩, ty1, p1, af1, none⟩ : Oper) q = true := fun _ => rfl
  simp only [wpOpsSIn, g0, g1, key1, key2, if_true, run1, run2]
  refine ⟨fun f hf => trivial, ?_⟩
  rcases hrec with hrec | ⟨hrec, rfl, rfl⟩
  · simp only [hrec, run2]
    refine ⟨fun f hf => trivial, ?_⟩
    subst hcs'
    exact hE
  · simp only [hrec, run2]
    refine ⟨fun f hf => trivial, ?_⟩
    exact hE

def dfin (P : Program) (G : Heap) (fn : Func) (E : Code) (r3 r2 : Nat) (caps : List D) (Φ : Out → Heap → List Nat → Prop) : VE → St → Prop
  | .normal, s | .ret, s => vwp vdraw P G E (fun e s2 => (e = .normal ∨ e = .ret) ∧ fin P fn Φ .ret ⟨s.σ, s2.β, s2.ω⟩) ⟨upd (upd (start caps) r3 .nilif) r2 .nilif, s.β, s.ω⟩
  | .panic d, s => vwp vdraw P G E (fun e s2 => (e = .normal ∨ e = .ret) ∧ fin P fn Φ .ret ⟨s.σ, s2.β, s2.ω⟩) ⟨upd (upd (start caps) r3 d) r2 d, s.β, s.ω⟩
  | _, _ => False

theorem defer_body {f g : FuncId} {fn gn : Func} {A C E : Code} {j j0 t5 t2 t3 r3 r2 : Nat} {ty1 ty2 ty3 ty4 : TypeId} {p1 p2 p3 p4 : String} {af1 af2 af3 af4 : Array Edge} {args : List D} {β : Heap} {ω : List Nat} {Φ : Out → Heap → List Nat → Prop}
    (hf : P.funcs[f]? = some fn)
    (hb : fn.body = some (.seq A (.seq (.region j #[⟨some t5, .makeFunc (.func g) #[] #[.tmp t2, .tmp t3], ty1, p1, af1, none⟩, ⟨none, .defer ⟨.value (.tmp t5), #[], #[]⟩, ty2, p2, af2, none⟩] false) C)))
    (hlen : args.length ≤ fn.ntmps) (hfA : fits fn.ntmps A = true) (hfC : fits fn.ntmps C = true) (hnA : noRange A = true) (h5 : t5 < fn.ntmps)
    (hg : P.funcs[g]? = some gn) (hgb : gn.body = some (.seq (.region j0 #[⟨some r3, .call ⟨.builtin .recover, #[], #[]⟩, ty3, p3, af3, none⟩, ⟨some r2, .assign (.tmp r3), ty4, p4, af4, none⟩] false) E))
    (hgname : (gn.name == "runtime.NumGoroutine") = false) (hres : gn.results = #[]) (hfe : fits gn.ntmps E = true) (hnr : noRange E = true) (h3 : r3 < gn.ntmps) (h2 : r2 < gn.ntmps) (hcn : 2 ≤ gn.ntmps)
    (h : vwp vdraw P G A (fun e s => e = .normal ∧ vwp vdraw P G C (dfin P G fn E r3 r2 [s.σ t2, s.σ t3] Φ) ⟨upd s.σ t5 (.clo (.func g) [] [s.σ t2, s.σ t3]), s.β, s.ω⟩) ⟨start args, β, ω⟩)
    {K : Kn} {w : World} {vargs : List Value} (hr : Rel G K β ω w) (ha : RepL K args vargs) :
    (Code.seq A (.seq (.region j #[⟨some t5, .makeFunc (.func g) #[] #[.tmp t2, .tmp t3], ty1, p1, af1, none⟩, ⟨none, .defer ⟨.value (.tmp t5), #[], #[]⟩, ty2, p2, af2, none⟩] false) C)).wpIn (W none) 0 P (bodyPostM Fence.wide 0 P fn (Back G Φ K β ω w)) { tmps := vargs.toArray ++ Array.replicate (fn.ntmps - vargs.toArray.size) undef, defers := [] } w := by
  have hl := ha.length
  have hsr : SR G fn.ntmps ⟨w.heap.size, [], true⟩ K ⟨start args, β, ω⟩ { tmps := vargs.toArray ++ Array.replicate (fn.ntmps - vargs.toArray.size) undef, defers := [] } w :=
    ⟨hr, start_rep ha fn.ntmps, by simp; omega, [], fun _ => rfl, rfl, List.nodup_nil, fun r hr => by simp at hr⟩
  refine wpIn_seq (wpIn_mono (vwp_soundR (ro := none) (B := ⟨w.heap.size, [], true⟩) (K0 := K) (β0 := β) (ω0 := ω) (w0 := w) vdraw_sound (Nat.le_refl _) A _ _ K _ w (.inr hnA) hfA h hsr (Evo.refl K β ω w)) ?_)
  rintro e a' w' ⟨K', s', ve, ⟨rfl, hC⟩, her, hsr', hev⟩
  cases e <;> first
    | exact her.elim
    | skip
  obtain ⟨rs0, hrs0, m0, _, _⟩ := hsr'.marks
  have hd0 : a'.defers = [] := by rw [m0, hrs0 rfl]; rfl
  refine wpIn_seq (wpIn_region ?_)
  have hr0 : List.range (#[(⟨some t5, .makeFunc (.func g) #[] #[.tmp t2, .tmp t3], ty1, p1, af1, none⟩ : Oper), ⟨none, .defer ⟨.value (.tmp t5), #[], #[]⟩, ty2, p2, af2, none⟩] : Array Oper).size = [0, 1] := rfl
  rw [hr0]
  simp only [wpOpsIn, List.getElem?_toArray, List.getElem?_cons_zero, List.getElem?_cons_succ, Region.wanted, if_true]
  have hclo : Rep K' (.clo (.func g) [] [s'.σ t2, s'.σ t3]) (.func (.func g) ([] : List Value).toArray [a'.eval (.tmp t2), a'.eval (.tmp t3)].toArray) := .clo .nil (.cons (hsr'.tmps t2) (.cons (hsr'.tmps t3) .nil))
  refine wpIn_value (fun c hc => by cases hc) (v := .func (.func g) ([] : List Value).toArray [a'.eval (.tmp t2), a'.eval (.tmp t3)].toArray) (w' := w') (by simp [execOp, Instr.makeFunc, Sem.run_pure]) ?_
  have g5 := hsr'.put (dst := some t5) hclo (fun t ht => by cases ht; exact h5)
  generalize ha1 : a'.put (some t5) (.func (.func g) ([] : List Value).toArray [a'.eval (.tmp t2), a'.eval (.tmp t3)].toArray) = a1 at g5
  have hd1 : a1.defers = [] := by rw [← ha1]; exact hd0
  have hv5 : a1.eval (.tmp t5) = .func (.func g) ([] : List Value).toArray [a'.eval (.tmp t2), a'.eval (.tmp t3)].toArray := by
    have hs := hsr'.size
    rw [← ha1]
    simp [Act.put, Act.eval, hs, h5]
  refine ⟨about_W, ?_⟩
  have hrun : (Oper.semAt (W none).round a1.eval ⟨none, .defer ⟨.value (.tmp t5), #[], #[]⟩, ty2, p2, af2, none⟩).run P w' = .ok (.defer { target := .fn (.func g) [a'.eval (.tmp t2), a'.eval (.tmp t3)].toArray, args := #[] }) w' := by
    show (Oper.semAt none a1.eval _).run P w' = _
    rw [Oper.semAt_none]
    simp only [execOp, resolve, hv5, Deferred.ofValue]
    simp [Sem.run_pure]
  rw [hrun]
  rw [Oper.uponIn_defer]
  generalize hdd : ({ target := .fn (.func g) [a'.eval (.tmp t2), a'.eval (.tmp t3)].toArray, args := #[] } : Deferred) = dd
  show C.wpIn (W none) 0 P (bodyPostM Fence.wide 0 P fn (Back G Φ K β ω w)) { a1 with defers := dd :: a1.defers } w'
  have hsr2 : SR G fn.ntmps ⟨w'.heap.size, [dd], false⟩ K' ⟨upd s'.σ t5 (.clo (.func g) [] [s'.σ t2, s'.σ t3]), s'.β, s'.ω⟩ { a1 with defers := dd :: a1.defers } w' :=
    ⟨g5.rel, g5.tmps, g5.size, [], fun _ => rfl, by rw [hd1]; rfl, List.nodup_nil, fun r hr => by simp at hr⟩
  refine wpIn_mono (vwp_sound (B := ⟨w'.heap.size, [dd], false⟩) (K0 := K') (β0 := s'.β) (ω0 := s'.ω) (w0 := w') vdraw_sound (Nat.le_refl _) rfl C _ _ K' _ w' hfC hC hsr2 (Evo.refl K' s'.β s'.ω w')) ?_
  rintro e a2 w2 ⟨K2, s2, ve, k1, k2, k3, k4⟩
  obtain ⟨rs, _, m1, m2, m3⟩ := k3.marks
  have hmarks : ∀ r ∈ rs, w2.heap[r]? = some (.deferred (some [])) := fun r hr => (m3 r hr).2
  have hevo : ∀ w'', (∀ i, i ∉ rs → w''.heap[i]? = w2.heap[i]?) → w''.heap.size = w2.heap.size → w''.os = w2.os → w''.tape = w2.tape → w''.output = w2.output → Evo K β ω w K2 s2.β s2.ω w'' := fun w'' q1 q2 q3 q4 q5 =>
    hev.trans ⟨k4.le, by rw [q2]; exact k4.size, q3.trans k4.os, q4.trans k4.tape, q5.trans k4.output, fun b hb ho => by
      obtain ⟨k1, k2, k3⟩ := k4.keep b hb ho
      have hnb : b ∉ rs := fun hb' => by have h9 := (m3 b hb').1; dsimp only at h9; omega
      exact ⟨(q1 b hnb).trans k1, k2, k3⟩, k4.tok⟩
  have hcaps : RepL K2 [s'.σ t2, s'.σ t3] [a'.eval (.tmp t2), a'.eval (.tmp t3)] := .cons ((hsr'.tmps t2).mono k4.le) (.cons ((hsr'.tmps t3).mono k4.le) .nil)
  have last : ∀ {u u' : FrameMode} {x : D} {xv : Value}, u ≠ .run → Rep K2 x xv → ((u = .returning ∧ xv = .nilIface ∧ u' = .returning) ∨ (u = .panicking [{ v := xv, recovered := false }] ∧ u' = .panicking [{ v := xv, recovered := true }])) →
      vwp vdraw P G E (fun e s3 => (e = .normal ∨ e = .ret) ∧ fin P fn Φ .ret ⟨s2.σ, s3.β, s3.ω⟩) ⟨upd (upd (start [s'.σ t2, s'.σ t3]) r3 x) r2 x, s2.β, s2.ω⟩ →
      LeavesInM Fence.wide 0 P fn a2.tmps (Back G Φ K β ω w) a2.defers u w2 := by
    intro u u' x xv hun hx hu hE
    rw [m1]
    refine end_marks2 hun rs w2 m2 hmarks fun w3 q1 q2 q3 q4 q5 => ?_
    have hrel := k3.rel.marks hmarks q1
    refine ⟨hun, .inr ⟨fun hh => (by cases hh), .func g, [a'.eval (.tmp t2), a'.eval (.tmp t3)].toArray, g, [a'.eval (.tmp t2), a'.eval (.tmp t3)].toArray, (by rw [← hdd]), ?_, fun _ _ => trivial, ?_⟩⟩
    · rw [← hdd]
      simp only [beq_eq_false_iff_ne, ne_eq] at hgname
      simp [invoke, callFunc, program, Sem.run, hg, hgname, hgb]
    · refine (rec_calls hg hgb hres hfe hnr h3 h2 (by simpa using hcn) hrel hcaps hx hu (Q := fun β' ω' => fin P fn Φ .ret ⟨s2.σ, β', ω'⟩) hE).mono ?_
      rintro e u2 w4 ⟨⟨v, rfl⟩, rfl, K4, β4, ω4, hQ, hrel4, hev4⟩
      show LeavesInM Fence.wide 0 P fn a2.tmps (Back G Φ K β ω w) [] (settle _) w4
      have hset : ∀ {u' : FrameMode}, ((u = .returning ∧ xv = .nilIface ∧ u' = .returning) ∨ (u = .panicking [{ v := xv, recovered := false }] ∧ u' = .panicking [{ v := xv, recovered := true }])) → settle u' = .returning := by
        rintro u' (⟨_, _, rfl⟩ | ⟨_, rfl⟩) <;> rfl
      rw [hset hu]
      obtain ⟨hc, d, β', ω', hwk, hsb, hsw, hφ⟩ := hQ
      have hsr4 : SR G fn.ntmps ⟨0, [], false⟩ K4 ⟨s2.σ, β4, ω4⟩ { a2 with defers := [] } w4 := ⟨hrel4, fun t => (k3.tmps t).mono hev4.le, k3.size, [], fun _ => rfl, rfl, List.nodup_nil, fun r hr => by simp at hr⟩
      obtain ⟨v2, v1, v3⟩ := results_sound (P := P) hsr4 hc
      exact ⟨v2, v1, K4, .ret d, β', ω', hwk K4 v2 v3, hφ, hrel4.less hsb hsw, ((hevo w3 q1 q2 q3 q4 q5).trans hev4).trans (Evo.less hsb hsw)⟩
  cases ve <;> cases e <;> first
    | exact k2.elim
    | exact k1.elim
    | exact last (by simp) .nilif (.inl ⟨rfl, rfl, rfl⟩) k1
    | skip
  obtain ⟨v, rfl, hv⟩ := k2
  exact last (by simp) hv (.inr ⟨rfl, rfl⟩) k1

theorem VC.of_defer {f g : FuncId} {fn gn : Func} {A C E : Code} {j j0 t5 t2 t3 r3 r2 : Nat} {ty1 ty2 ty3 ty4 : TypeId} {p1 p2 p3 p4 : String} {af1 af2 af3 af4 : Array Edge} {args : List D} {β : Heap} {ω : List Nat} {Φ : Out → Heap → List Nat → Prop}
    (hf : P.funcs[f]? = some fn)
    (hb : fn.body = some (.seq A (.seq (.region j #[⟨some t5, .makeFunc (.func g) #[] #[.tmp t2, .tmp t3], ty1, p1, af1, none⟩, ⟨none, .defer ⟨.value (.tmp t5), #[], #[]⟩, ty2, p2, af2, none⟩] false) C)))
    (hname : (fn.name == "runtime.NumGoroutine") = false) (hlen : args.length ≤ fn.ntmps) (hfA : fits fn.ntmps A = true) (hfC : fits fn.ntmps C = true) (hnA : noRange A = true) (h5 : t5 < fn.ntmps)
    (hg : P.funcs[g]? = some gn) (hgb : gn.body = some (.seq (.region j0 #[⟨some r3, .call ⟨.builtin .recover, #[], #[]⟩, ty3, p3, af3, none⟩, ⟨some r2, .assign (.tmp r3), ty4, p4, af4, none⟩] false) E))
    (hgname : (gn.name == "runtime.NumGoroutine") = false) (hres : gn.results = #[]) (hfe : fits gn.ntmps E = true) (hnr : noRange E = true) (h3 : r3 < gn.ntmps) (h2 : r2 < gn.ntmps) (hcn : 2 ≤ gn.ntmps)
    (h : vwp vdraw P G A (fun e s => e = .normal ∧ vwp vdraw P G C (dfin P G fn E r3 r2 [s.σ t2, s.σ t3] Φ) ⟨upd s.σ t5 (.clo (.func g) [] [s.σ t2, s.σ t3]), s.β, s.ω⟩) ⟨start args, β, ω⟩) : VC P G f args β ω Φ := by
  intro K w vargs hr ha
  refine .inl ⟨?_, ?_⟩
  · simp only [beq_eq_false_iff_ne, ne_eq] at hname; simp [callFunc, program, Sem.run, hf, hname, hb]
  have hcalls : CallsIn Fence.wide 0 P f vargs.toArray w (Back G Φ K β ω w) := by
    refine callsIn_of_wp_marks hf hb trivial ?_
    exact defer_body hf hb hlen hfA hfC hnA h5 hg hgb hgname hres hfe hnr h3 h2 hcn h hr ha
  exact callsIn_wide.1 hcalls

def finP (Φ : Out → Heap → List Nat → Prop) (d : D) (β : Heap) (ω : List Nat) : Prop :=
  ∃ d' β' ω', Wk d d' ∧ (∀ b cs, β' b = some cs → β b = some cs) ∧ (∀ t, t ∈ ω' → t ∈ ω) ∧ Φ (.pan d') β' ω'
def recQ (P : Program) (Φ : Out → Heap → List Nat → Prop) (rs : List ResultVar) (σ : Sg) : VE → St → Prop
  | .normal, s | .ret, s => resO P σ s.β rs ∧ finK Φ (resD (resL P σ s.β rs)) s.β s.ω
  | _, _ => False
def dfinq (ct : Cert) (P : Program) (G : Heap) (E : Code) (r3 r2 : Nat) (caps : List D) (Φ : Out → Heap → List Nat → Prop) (rs : List ResultVar) : VE → St → Prop
  | .normal, s | .ret, s => vwq false ct P G E (recQ P Φ rs s.σ) ⟨upd (upd (start caps) r3 .nilif) r2 .nilif, s.β, s.ω⟩
  | .panic d, s => vwq false ct P G E (recQ P Φ rs s.σ) ⟨upd (upd (start caps) r3 d) r2 d, s.β, s.ω⟩
  | _, _ => False
section
variable {σ σ' : Sg} {β : Heap} {ω : List Nat} {Φ : Out → Heap → List Nat → Prop} {rs : List ResultVar} {ct : Cert} {E : Code} {r3 r2 : Nat} {caps : List D} {ts : List Tmp}
theorem finc_panic {d : D} : finc P Φ rs (.panic d) ⟨σ, β, ω⟩ = finP Φ d β ω := (rfl)
theorem fins_panic {d : D} : fins Φ ts (.panic d) ⟨σ, β, ω⟩ = finP Φ d β ω := (rfl)
theorem recQ_normal : recQ P Φ rs σ .normal ⟨σ', β, ω⟩ = (resO P σ β rs ∧ finK Φ (resD (resL P σ β rs)) β ω) := (rfl)
theorem recQ_ret : recQ P Φ rs σ .ret ⟨σ', β, ω⟩ = (resO P σ β rs ∧ finK Φ (resD (resL P σ β rs)) β ω) := (rfl)
theorem dfinq_normal : dfinq ct P G E r3 r2 caps Φ rs .normal ⟨σ, β, ω⟩ = vwq false ct P G E (recQ P Φ rs σ) ⟨upd (upd (start caps) r3 .nilif) r2 .nilif, β, ω⟩ := (rfl)
theorem dfinq_ret : dfinq ct P G E r3 r2 caps Φ rs .ret ⟨σ, β, ω⟩ = vwq false ct P G E (recQ P Φ rs σ) ⟨upd (upd (start caps) r3 .nilif) r2 .nilif, β, ω⟩ := (rfl)
theorem dfinq_panic {d : D} : dfinq ct P G E r3 r2 caps Φ rs (.panic d) ⟨σ, β, ω⟩ = vwq false ct P G E (recQ P Φ rs σ) ⟨upd (upd (start caps) r3 d) r2 d, β, ω⟩ := (rfl)
end
attribute [go_sem ↓] finc_panic fins_panic recQ_normal recQ_ret dfinq_normal dfinq_ret dfinq_panic

theorem VC.defers {f g : FuncId} {fn gn : Func} {A C E : Code} {j j0 t5 t2 t3 r3 r2 : Nat} {ty1 ty2 ty3 ty4 : TypeId} {p1 p2 p3 p4 : String} {af1 af2 af3 af4 : Array Edge} {args : List D} {β : Heap} {ω : List Nat} {Φ : Out → Heap → List Nat → Prop} (ct cE : Cert) (rs : List ResultVar) (hm : P.follows .mixedOrders = true)
    (hf : P.funcs[f]? = some fn)
    (hb : fn.body = some (.seq A (.seq (.region j #[⟨some t5, .makeFunc (.func g) #[] #[.tmp t2, .tmp t3], ty1, p1, af1, none⟩, ⟨none, .defer ⟨.value (.tmp t5), #[], #[]⟩, ty2, p2, af2, none⟩] false) C)))
    (hname : (fn.name == "runtime.NumGoroutine") = false) (hresf : fn.results = rs.toArray)
    (hg : P.funcs[g]? = some gn) (hgb : gn.body = some (.seq (.region j0 #[⟨some r3, .call ⟨.builtin .recover, #[], #[]⟩, ty3, p3, af3, none⟩, ⟨some r2, .assign (.tmp r3), ty4, p4, af4, none⟩] false) E))
    (hgname : (gn.name == "runtime.NumGoroutine") = false) (hres : gn.results = #[])
    (hfit : fits fn.ntmps A = true ∧ fits fn.ntmps C = true ∧ noRange A = true ∧ t5 < fn.ntmps ∧ fits gn.ntmps E = true ∧ noRange E = true ∧ r3 < gn.ntmps ∧ r2 < gn.ntmps ∧ 2 ≤ gn.ntmps)
    (hok : okCode ct A = true ∧ okCode ct C = true ∧ okCode cE E = true) (hlen : args.length ≤ fn.ntmps)
    (h : vwq false ct P G A (VE.then (fun s => vwq false ct P G C (dfinq cE P G E r3 r2 [s.σ t2, s.σ t3] Φ rs) ⟨upd s.σ t5 (.clo (.func g) [] [s.σ t2, s.σ t3]), s.β, s.ω⟩) (fun _ _ => False)) ⟨start args, β, ω⟩) : VC P G f args β ω Φ := by
  obtain ⟨k1, k2, k3, k4, k5, k6, k7, k8, k9⟩ := hfit
  obtain ⟨o1, o2, o3⟩ := hok
  refine VC.of_defer hf hb hname hlen k1 k2 k3 k4 hg hgb hgname hres k5 k6 k7 k8 k9 (vwq_vwp hm A (fun e s hs => ?_) o1 h)
  have hl : fn.results.toList = rs := by rw [hresf]
  have key : ∀ (σ : Sg) (e : VE) (s2 : St), recQ P Φ rs σ e s2 → (e = .normal ∨ e = .ret) ∧ fin P fn Φ .ret ⟨σ, s2.β, s2.ω⟩ := fun σ e s2 hq => by
    have h0 : (e = .normal ∨ e = .ret) ∧ (resO P σ s2.β rs ∧ finK Φ (resD (resL P σ s2.β rs)) s2.β s2.ω) := by
      cases e <;> first
        | exact hq.elim
        | exact ⟨.inl rfl, hq⟩
        | exact ⟨.inr rfl, hq⟩
    obtain ⟨he, h1, h2⟩ := h0
    refine ⟨he, ?_⟩
    show (∀ r ∈ fn.results.toList, (resv P ⟨σ, s2.β, s2.ω⟩ r).2) ∧ ∃ d β' ω', Wk (resD (fn.results.toList.map fun r => (resv P ⟨σ, s2.β, s2.ω⟩ r).1)) d ∧ _
    rw [hl]
    refine ⟨resO_all (s := ⟨σ, s2.β, s2.ω⟩) h1, ?_⟩
    have e : (rs.map fun r => (resv P ⟨σ, s2.β, s2.ω⟩ r).1) = resL P σ s2.β rs := List.map_congr_left fun r _ => by cases r <;> rfl
    rw [e]
    exact h2
  cases e <;> first
    | exact hs.elim
    | skip
  refine ⟨rfl, vwq_vwp hm C (fun e s1 hs1 => ?_) o2 hs⟩
  cases e <;> first
    | exact hs1.elim
    | exact vwq_vwp hm E (key _) o3 hs1
end Go.Proofs.YtpblgfgcoamgmaaGreatV
namespace Go.Proofs.YtpblgfgcoamgmaaGreatV
open Go

variable {P : Program} {G : Heap} {β : Heap} {ω : List Nat} {ops : Array Oper} {rest : List Oper} {es : List Ent} {Q : VE → St → Prop} {dst : Option Tmp} {σ : Sg} {f : FuncId} {args : List D} {U : List Nat} {i : Nat} {rd : Rd} {k q : D → Heap → List Nat → Prop}

def pnK (x : D) (h : Prop) (Q : VE → St → Prop) (σ : Sg) (β : Heap) (ω : List Nat) : Prop :=
  match x with
  | .iface t d => h ∧ Q (.panic (.iface t d)) ⟨σ, β, ω⟩
  | _ => False
theorem pnK_iface {t : TypeId} {d : D} {h : Prop} : pnK (.iface t d) h Q σ β ω = (h ∧ Q (.panic (.iface t d)) ⟨σ, β, ω⟩) := (rfl)
@[congr] theorem pnK_congr {x x' : D} {h h' : Prop} (e1 : x = x') (e2 : h = h') : pnK x h Q σ β ω = pnK x' h' Q σ β ω := by rw [e1, e2]
theorem E_panic (x : Operand) {ty : TypeId} {pos : String} {af : Array Edge} : evu P G ops (⟨dst, .panic x, ty, pos, af, none⟩ :: rest) Q ⟨σ, β, ω⟩ = pnK (ew G σ x) (ow G σ x) Q σ β ω := by
  simp only [evu, evg, vstep, ev_ew, has_ow]
  cases ew G σ x <;> rfl
attribute [go_sem] pnK_iface
attribute [go_sem ↓] E_panic

def onOut (r : Out) (k q : D → Prop) : Prop := match r with | .ret d => k d | .pan d => q d
theorem onOut_ret {d : D} {k q : D → Prop} : onOut (.ret d) k q = k d := (rfl)
theorem onOut_pan {d : D} {k q : D → Prop} : onOut (.pan d) k q = q d := (rfl)
@[congr] theorem onOut_congr {r r' : Out} {k q : D → Prop} (e : r = r') : onOut r k q = onOut r' k q := by rw [e]
attribute [go_sem] onOut_ret onOut_pan

def VNP (P : Program) (G : Heap) (f : FuncId) (args : List D) (r : Out) : Prop := VC P G f args Heap.nil [] fun o β ω => o = r ∧ β = Heap.nil ∧ ω = []
theorem callK_np {r : Out} (h : VNP P G f args r) (hk : onOut r (fun d => k d β ω) fun d => q d β ω) : callK P G (.clo (.func f) [] []) args β ω k q :=
  callK_vc h (Part.nil β ω) (fun d' β' ω' ⟨β1, ω1, ⟨h1, h2, h3⟩, _, _, h4, h5⟩ => by
    subst h1 h2 h3 h4 h5
    simpa [onOut] using hk) (fun d' β' ω' ⟨β1, ω1, ⟨h1, h2, h3⟩, _, _, h4, h5⟩ => by
    subst h1 h2 h3 h4 h5
    simpa [onOut] using hk)
theorem cK_np {r : Out} (h : VNP P G f args r) (hk : onOut r (fun d => Ko P G ops rest Q dst σ d β ω) fun d => Q (.panic d) ⟨σ, β, ω⟩) : cK P G (.clo (.func f) [] []) args β ω ops rest Q dst σ := callK_np h hk

def VPP (P : Program) (G : Heap) (f : FuncId) (args : Nat → List D) (cs : List D) (r : Out) (cs' : List D) : Prop :=
  ∀ b, VC P G f (args b) (Heap.nil.set b cs) [] fun o β ω => o = r ∧ β = Heap.nil.set b cs' ∧ ω = []
theorem callK_pp {args : Nat → List D} {x y : List D} {b : Nat} {r : Out} (h : VPP P G f args x r y) (hb : β b = some x) (hk : onOut r (fun d => k d (β.set b y) ω) fun d => q d (β.set b y) ω) : callK P G (.clo (.func f) [] []) (args b) β ω k q :=
  callK_vc (h b) (Part.var hb) (fun d' β' ω' ⟨β1, ω1, ⟨h1, h2, h3⟩, _, _, h4, h5⟩ => by
    subst h1 h2 h3 h4 h5
    rw [joinH_box hb]
    simpa [onOut] using hk) (fun d' β' ω' ⟨β1, ω1, ⟨h1, h2, h3⟩, _, _, h4, h5⟩ => by
    subst h1 h2 h3 h4 h5
    rw [joinH_box hb]
    simpa [onOut] using hk)
theorem cK_pp {args : Nat → List D} {x y : List D} {b : Nat} {r : Out} (h : VPP P G f args x r y) (hb : β b = some x) (hk : onOut r (fun d => Ko P G ops rest Q dst σ d (β.set b y) ω) fun d => Q (.panic d) ⟨σ, β.set b y, ω⟩) : cK P G (.clo (.func f) [] []) (args b) β ω ops rest Q dst σ := callK_pp h hb hk
theorem finP_keep {Φ : Out → Heap → List Nat → Prop} {d : D} {β' : Heap} (hs : ∀ b cs, β' b = some cs → β b = some cs) (h : Φ (.pan d) β' []) : finP Φ d β ω :=
  ⟨d, β', [], Wk.refl d, hs, fun _ h => (List.not_mem_nil h).elim, h⟩
theorem finP_pure {Φ : Out → Heap → List Nat → Prop} {d : D} (h : Φ (.pan d) Heap.nil []) : finP Φ d β ω := finP_keep (β' := Heap.nil) (fun _ _ h => (nomatch h : False).elim) h
theorem finP_var {Φ : Out → Heap → List Nat → Prop} {d : D} {b : Nat} {cs : List D} (hb : β b = some cs) (h : Φ (.pan d) (Heap.nil.set b cs) []) : finP Φ d β ω :=
  finP_keep (fun b' cs'' hs => by
    unfold Heap.set at hs
    split at hs
    · rename_i e; subst e; cases hs; exact hb
    · cases hs) h
end Go.Proofs.YtpblgfgcoamgmaaGreatV
namespace Go.Proofs.YtpblgfgcoamgmaaGreatS
open Go Go.Proofs.YtpblgfgcoamgmaaGreatV

variable {G : Heap}
attribute [local irreducible] VN VC VX VQ VY VW VTA VT0

def errD (e : Int) : D := .iface 45 (.int .i64 e)
def rkC (tk : Tk) (b : List Nat) (p : Int) : List D := [.sl tk (bs b), .int .i64 p]
def rdO (d : D) (e : Int) : Out := if e = 0 then .ret d else .pan (errD e)
theorem rdO_ret {d : D} {e : Int} (h : e = 0) : rdO d e = .ret d := if_pos h
theorem rdO_pan {d : D} {e : Int} (h : ¬ e = 0) : rdO d e = .pan (errD e) := if_neg h
def rdQ {α : Type} (p : Int) (r : α × Int × Int) : α × Int × Int := (r.1, if r.2.2 = 0 then r.2.1 else p, r.2.2)
def rU (b : List Nat) (p : Int) : Nat × Int × Int := rdQ p ((readU b p).1, ((readU b p).2.1 : Int), ((readU b p).2.2 : Int))
def rS (b : List Nat) (p : Int) : Int × Int × Int := rdQ p (unzig (readU b p).1, ((readU b p).2.1 : Int), ((readU b p).2.2 : Int))
def rT (b : List Nat) (p : Int) : ByteArray × Int × Int := rdQ p (strN ((b.drop (spanF b p).1).take ((spanF b p).2.1 - (spanF b p).1)), ((spanF b p).2.1 : Int), ((spanF b p).2.2 : Int))
def rP (b : List Nat) (p : Int) : Pr × Int × Int := rdQ p (pDecF b p)
def numF (b : List Nat) (lim : Nat) (p : Int) : Nat × Int × Int := if (rU b p).2.2 = 0 ∧ lim < (rU b p).1 then (0, (rU b p).2.1, 2) else rU b p
def idF (b : List Nat) (prev : Int) (p : Int) : Nat × Int × Int := if (numF b 1073741824 p).2.2 = 0 ∧ ((numF b 1073741824 p).1 : Int) ≤ prev then (0, (numF b 1073741824 p).2.1, 5) else numF b 1073741824 p
def VRd (P : Program) (G : Heap) (f : FuncId) (args : List D) (tk : Tk) (b : List Nat) (p : Int) (d : D) (at_ e : Int) : Prop :=
  VPP P G f (fun q => .pb q 0 :: args) (rkC tk b p) (rdO d e) (rkC tk b at_)

theorem pfail_ok (e : Int) : VNP P G 50 [.int .i64 e] (.pan (errD e)) := by
  unfold VNP
  refine VC.ofs (fun | 99999999 => [(0, [0])] | _ => []) [] mixed Tryz.func50 rfl rfl rfl rfl (by decide +kernel) (by simp) ?_
  simp only [go_sem, reduceIte, Nat.reduceEqDiff, Nat.reduceAdd, Nat.reduceSub, Nat.reduceMul, Nat.reduceLT, Nat.reduceLeDiff, Nat.reducePow, Int.reduceToNat, Int.reduceLT, Int.reduceLE, Int.reduceEq, Int.reduceNe, Int.reduceAdd, Int.reduceSub, Int.reduceMul, Int.reduceNeg]
  exact finP_pure ⟨rfl, rfl, rfl⟩
theorem preadU_ok (tk : Tk) (b : List Nat) (p : Int) (hb : Byt b) : VRd P G 133 [.clo (.func 134) [] []] tk b p (.int .u64 (rU b p).1) (rU b p).2.1 (rU b p).2.2 := by
  have hr := ReadU_ok (G := G) tk b p hb
  simp only [tri] at hr
  unfold VRd rU rdQ rkC
  generalize readU b p = r at hr ⊢
  intro q
  dsimp only
  refine VC.ofs (fun | 1 => [(0, []), (1, []), (2, []), (3, []), (4, []), (5, []), (6, []), (7, []), (8, []), (9, []), (10, []), (11, []), (12, []), (13, []), (14, []), (15, []), (16, [])] | 99999999 => [(0, [0, 1, 4, 5, 6, 7, 23])] | _ => []) [4] mixed Tryz.func133 rfl rfl rfl rfl (by decide +kernel) (by simp) ?_
  simp only [go_sem, reduceIte, Nat.reduceEqDiff, Nat.reduceAdd, Nat.reduceSub, Nat.reduceMul, Nat.reduceLT, Nat.reduceLeDiff, Nat.reducePow, Int.reduceToNat, Int.reduceLT, Int.reduceLE, Int.reduceEq, Int.reduceNe, Int.reduceAdd, Int.reduceSub, Int.reduceMul, Int.reduceNeg, ]
  refine cE_vn hr ?_
  by_cases k : (r.2.2 : Int) = 0
  · have k2 : r.2.2 = 0 := by omega
    simp only [go_sem, reduceIte, Nat.reduceEqDiff, Nat.reduceAdd, Nat.reduceSub, Nat.reduceMul, Nat.reduceLT, Nat.reduceLeDiff, Nat.reducePow, Int.reduceToNat, Int.reduceLT, Int.reduceLE, Int.reduceEq, Int.reduceNe, Int.reduceAdd, Int.reduceSub, Int.reduceMul, Int.reduceNeg, k]
    refine finK_var (b := q) (x := [.sl tk (bs b), .int .i64 r.2.1]) (by simp [Heap.set, k, k2]) ⟨?_, by simp [k, k2], rfl⟩
    simp [rdO, k, k2, D.er, D.er1]
  · have k2 : ¬ r.2.2 = 0 := by omega
    simp only [go_sem, reduceIte, Nat.reduceEqDiff, Nat.reduceAdd, Nat.reduceSub, Nat.reduceMul, Nat.reduceLT, Nat.reduceLeDiff, Nat.reducePow, Int.reduceToNat, Int.reduceLT, Int.reduceLE, Int.reduceEq, Int.reduceNe, Int.reduceAdd, Int.reduceSub, Int.reduceMul, Int.reduceNeg, k, ne_eq]
    refine cK_np (pfail_ok r.2.2) ?_
    simp only [go_sem, reduceIte, Nat.reduceEqDiff, Nat.reduceAdd, Nat.reduceSub, Nat.reduceMul, Nat.reduceLT, Nat.reduceLeDiff, Nat.reducePow, Int.reduceToNat, Int.reduceLT, Int.reduceLE, Int.reduceEq, Int.reduceNe, Int.reduceAdd, Int.reduceSub, Int.reduceMul, Int.reduceNeg, ]
    refine finP_var (b := q) (cs := [.sl tk (bs b), .int .i64 p]) (by simp [Heap.set, k, k2]) ⟨?_, by simp [k, k2], rfl⟩
    simp [rdO, k, k2]
theorem preadS_ok (tk : Tk) (b : List Nat) (p : Int) (hb : Byt b) : VRd P G 90 [.clo (.func 91) [] []] tk b p (.int .i64 (rS b p).1) (rS b p).2.1 (rS b p).2.2 := by
  have hr := ReadS_ok (G := G) tk b p hb
  simp only [triS] at hr
  unfold VRd rS rdQ rkC
  generalize readU b p = r at hr ⊢
  intro q
  dsimp only
  refine VC.ofs (fun | 1 => [(0, []), (1, []), (2, []), (3, []), (4, []), (5, []), (6, []), (7, []), (8, []), (9, []), (10, []), (11, []), (12, []), (13, []), (14, []), (15, []), (16, [])] | 99999999 => [(0, [0, 1, 4, 5, 6, 7, 23])] | _ => []) [4] mixed Tryz.func90 rfl rfl rfl rfl (by decide +kernel) (by simp) ?_
  simp only [go_sem, reduceIte, Nat.reduceEqDiff, Nat.reduceAdd, Nat.reduceSub, Nat.reduceMul, Nat.reduceLT, Nat.reduceLeDiff, Nat.reducePow, Int.reduceToNat, Int.reduceLT, Int.reduceLE, Int.reduceEq, Int.reduceNe, Int.reduceAdd, Int.reduceSub, Int.reduceMul, Int.reduceNeg, ]
  refine cE_vn hr ?_
  by_cases k : (r.2.2 : Int) = 0
  · have k2 : r.2.2 = 0 := by omega
    simp only [go_sem, reduceIte, Nat.reduceEqDiff, Nat.reduceAdd, Nat.reduceSub, Nat.reduceMul, Nat.reduceLT, Nat.reduceLeDiff, Nat.reducePow, Int.reduceToNat, Int.reduceLT, Int.reduceLE, Int.reduceEq, Int.reduceNe, Int.reduceAdd, Int.reduceSub, Int.reduceMul, Int.reduceNeg, k]
    refine finK_var (b := q) (x := [.sl tk (bs b), .int .i64 r.2.1]) (by simp [Heap.set, k, k2]) ⟨?_, by simp [k, k2], rfl⟩
    simp [rdO, k, k2, D.er, D.er1]
  · have k2 : ¬ r.2.2 = 0 := by omega
    simp only [go_sem, reduceIte, Nat.reduceEqDiff, Nat.reduceAdd, Nat.reduceSub, Nat.reduceMul, Nat.reduceLT, Nat.reduceLeDiff, Nat.reducePow, Int.reduceToNat, Int.reduceLT, Int.reduceLE, Int.reduceEq, Int.reduceNe, Int.reduceAdd, Int.reduceSub, Int.reduceMul, Int.reduceNeg, k, ne_eq]
    refine cK_np (pfail_ok r.2.2) ?_
    simp only [go_sem, reduceIte, Nat.reduceEqDiff, Nat.reduceAdd, Nat.reduceSub, Nat.reduceMul, Nat.reduceLT, Nat.reduceLeDiff, Nat.reducePow, Int.reduceToNat, Int.reduceLT, Int.reduceLE, Int.reduceEq, Int.reduceNe, Int.reduceAdd, Int.reduceSub, Int.reduceMul, Int.reduceNeg, ]
    refine finP_var (b := q) (cs := [.sl tk (bs b), .int .i64 p]) (by simp [Heap.set, k, k2]) ⟨?_, by simp [k, k2], rfl⟩
    simp [rdO, k, k2]
theorem preadT_ok (tk : Tk) (b : List Nat) (p : Int) (hb : Byt b) : VRd P G 92 [.clo (.func 93) [] []] tk b p (.str (rT b p).1) (rT b p).2.1 (rT b p).2.2 := by
  have hr := ReadText_ok (G := G) tk b p hb
  simp only [triT] at hr
  unfold VRd rT rdQ rkC
  generalize spanF b p = r at hr ⊢
  intro q
  dsimp only
  refine VC.ofs (fun | 1 => [(0, []), (1, []), (2, []), (3, []), (4, []), (5, []), (6, []), (7, []), (8, []), (9, []), (10, []), (11, []), (12, []), (13, []), (14, []), (15, []), (16, [])] | 99999999 => [(0, [0, 1, 4, 5, 6, 7, 23])] | _ => []) [4] mixed Tryz.func92 rfl rfl rfl rfl (by decide +kernel) (by simp) ?_
  simp only [go_sem, reduceIte, Nat.reduceEqDiff, Nat.reduceAdd, Nat.reduceSub, Nat.reduceMul, Nat.reduceLT, Nat.reduceLeDiff, Nat.reducePow, Int.reduceToNat, Int.reduceLT, Int.reduceLE, Int.reduceEq, Int.reduceNe, Int.reduceAdd, Int.reduceSub, Int.reduceMul, Int.reduceNeg, ]
  refine cE_vn hr ?_
  by_cases k : (r.2.2 : Int) = 0
  · have k2 : r.2.2 = 0 := by omega
    simp only [go_sem, reduceIte, Nat.reduceEqDiff, Nat.reduceAdd, Nat.reduceSub, Nat.reduceMul, Nat.reduceLT, Nat.reduceLeDiff, Nat.reducePow, Int.reduceToNat, Int.reduceLT, Int.reduceLE, Int.reduceEq, Int.reduceNe, Int.reduceAdd, Int.reduceSub, Int.reduceMul, Int.reduceNeg, k]
    refine finK_var (b := q) (x := [.sl tk (bs b), .int .i64 r.2.1]) (by simp [Heap.set, k, k2]) ⟨?_, by simp [k, k2], rfl⟩
    simp [rdO, k, k2, D.er, D.er1]
  · have k2 : ¬ r.2.2 = 0 := by omega
    simp only [go_sem, reduceIte, Nat.reduceEqDiff, Nat.reduceAdd, Nat.reduceSub, Nat.reduceMul, Nat.reduceLT, Nat.reduceLeDiff, Nat.reducePow, Int.reduceToNat, Int.reduceLT, Int.reduceLE, Int.reduceEq, Int.reduceNe, Int.reduceAdd, Int.reduceSub, Int.reduceMul, Int.reduceNeg, k, ne_eq]
    refine cK_np (pfail_ok r.2.2) ?_
    simp only [go_sem, reduceIte, Nat.reduceEqDiff, Nat.reduceAdd, Nat.reduceSub, Nat.reduceMul, Nat.reduceLT, Nat.reduceLeDiff, Nat.reducePow, Int.reduceToNat, Int.reduceLT, Int.reduceLE, Int.reduceEq, Int.reduceNe, Int.reduceAdd, Int.reduceSub, Int.reduceMul, Int.reduceNeg, ]
    refine finP_var (b := q) (cs := [.sl tk (bs b), .int .i64 p]) (by simp [Heap.set, k, k2]) ⟨?_, by simp [k, k2], rfl⟩
    simp [rdO, k, k2]
theorem preadP_ok (tk : Tk) (b : List Nat) (p : Int) (hb : Byt b) (hbl : b.length ≤ 1099511627776) : VRd P G 44 [.clo (.func 45) [] []] tk b p (.agg (rP b p).1.cells) (rP b p).2.1 (rP b p).2.2 := by
  have hr := pDecode_ok (G := G) tk b p hb hbl
  unfold VRd rP rdQ rkC
  generalize pDecF b p = r at hr ⊢
  intro q
  dsimp only
  refine VC.ofc (fun | 1 => [(0, []), (1, []), (2, []), (3, []), (4, []), (5, []), (6, []), (7, []), (8, []), (9, [14]), (10, []), (11, []), (12, []), (13, []), (14, []), (15, []), (16, []), (17, [])] | 99999999 => [(0, [0, 1, 4, 5, 6, 7, 23])] | _ => []) [.cell 4 40] mixed Tryz.func44 rfl rfl rfl rfl (by decide +kernel) (by simp) ?_
  generalize hβ : Heap.set Heap.nil q [.sl tk (bs b), .int .i64 p] = β0
  have eq : β0 q = some [.sl tk (bs b), .int .i64 p] := hit_set hβ
  clear hβ
  have N := trivial
  have eq0 := eq
  try simp only [go_sem, reduceIte, Nat.reduceEqDiff, Nat.reduceAdd, Nat.reduceSub, Nat.reduceMul, Nat.reduceLT, Nat.reduceLeDiff, Nat.reducePow, Int.reduceToNat, Int.reduceLT, Int.reduceLE, Int.reduceEq, Int.reduceNe, Int.reduceAdd, Int.reduceSub, Int.reduceMul, Int.reduceNeg, ]
  refine new_any fun b4 hb4 => ?_
  have N := And.intro N (box_ne hb4 eq)
  generalize hβ_ : Heap.set _ b4 _ = β_
  have e4 := hit_set hβ_
  have eq := keep_new hβ_ hb4 eq
  clear hβ_ hb4
  try simp only [go_sem, reduceIte, Nat.reduceEqDiff, Nat.reduceAdd, Nat.reduceSub, Nat.reduceMul, Nat.reduceLT, Nat.reduceLeDiff, Nat.reducePow, Int.reduceToNat, Int.reduceLT, Int.reduceLE, Int.reduceEq, Int.reduceNe, Int.reduceAdd, Int.reduceSub, Int.reduceMul, Int.reduceNeg, N, eq0, eq, e4]
  refine cE_vn hr ?_
  try simp only [go_sem, reduceIte, Nat.reduceEqDiff, Nat.reduceAdd, Nat.reduceSub, Nat.reduceMul, Nat.reduceLT, Nat.reduceLeDiff, Nat.reducePow, Int.reduceToNat, Int.reduceLT, Int.reduceLE, Int.reduceEq, Int.reduceNe, Int.reduceAdd, Int.reduceSub, Int.reduceMul, Int.reduceNeg, N, eq, e4]
  refine new_any fun b5 hb5 => ?_
  have N := And.intro N (box_ne hb5 e4)
  have N := And.intro N (box_ne hb5 eq)
  try simp only [go_sem, reduceIte, Nat.reduceEqDiff, Nat.reduceAdd, Nat.reduceSub, Nat.reduceMul, Nat.reduceLT, Nat.reduceLeDiff, Nat.reducePow, Int.reduceToNat, Int.reduceLT, Int.reduceLE, Int.reduceEq, Int.reduceNe, Int.reduceAdd, Int.reduceSub, Int.reduceMul, Int.reduceNeg, N, eq, e4]
  by_cases k : (r.2.2 : Int) = 0
  · have k2 : r.2.2 = 0 := by omega
    try simp only [go_sem, reduceIte, Nat.reduceEqDiff, Nat.reduceAdd, Nat.reduceSub, Nat.reduceMul, Nat.reduceLT, Nat.reduceLeDiff, Nat.reducePow, Int.reduceToNat, Int.reduceLT, Int.reduceLE, Int.reduceEq, Int.reduceNe, Int.reduceAdd, Int.reduceSub, Int.reduceMul, Int.reduceNeg, k, N, eq, e4]
    refine finK_var (b := q) (x := [.sl tk (bs b), .int .i64 r.2.1]) (by simp [Heap.set, N]) ⟨?_, rfl, rfl⟩
    simp [rdO, D.er, D.er1, Pr_er]
  · have k2 : ¬ r.2.2 = 0 := by omega
    try simp only [go_sem, reduceIte, Nat.reduceEqDiff, Nat.reduceAdd, Nat.reduceSub, Nat.reduceMul, Nat.reduceLT, Nat.reduceLeDiff, Nat.reducePow, Int.reduceToNat, Int.reduceLT, Int.reduceLE, Int.reduceEq, Int.reduceNe, Int.reduceAdd, Int.reduceSub, Int.reduceMul, Int.reduceNeg, k, ne_eq, N, eq, e4]
    refine cK_np (pfail_ok r.2.2) ?_
    try simp only [go_sem, reduceIte, Nat.reduceEqDiff, Nat.reduceAdd, Nat.reduceSub, Nat.reduceMul, Nat.reduceLT, Nat.reduceLeDiff, Nat.reducePow, Int.reduceToNat, Int.reduceLT, Int.reduceLE, Int.reduceEq, Int.reduceNe, Int.reduceAdd, Int.reduceSub, Int.reduceMul, Int.reduceNeg, ]
    refine finP_var (b := q) (cs := [.sl tk (bs b), .int .i64 p]) (by simp [Heap.set, N, eq]) ⟨?_, by simp [k, k2], rfl⟩
    simp [rdO, k, k2]
theorem pnumber_ok (tk : Tk) (b : List Nat) (p : Int) (hb : Byt b) (lim : Nat) (hl : lim ≤ 1073741824) : VRd P G 86 [.int .i64 lim] tk b p (.int .i64 (numF b lim p).1) (numF b lim p).2.1 (numF b lim p).2.2 := by
  have hr := preadU_ok (G := G) tk b p hb
  unfold VRd numF
  unfold VRd at hr
  have hv : (rU b p).1 < 2^64 := (readU_spec b p hb).val
  generalize rU b p = r at hr hv ⊢
  intro q
  refine VC.ofs (fun | 99999999 => [(0, [0, 1, 4, 5, 11])] | _ => []) [4] mixed Tryz.func86 rfl rfl rfl rfl (by decide +kernel) (by simp) ?_
  try simp only [go_sem, reduceIte, Nat.reduceEqDiff, Nat.reduceAdd, Nat.reduceSub, Nat.reduceMul, Nat.reduceLT, Nat.reduceLeDiff, Nat.reducePow, Int.reduceToNat, Int.reduceLT, Int.reduceLE, Int.reduceEq, Int.reduceNe, Int.reduceAdd, Int.reduceSub, Int.reduceMul, Int.reduceNeg, ]
  refine cK_pp hr (hit_set rfl) ?_
  by_cases k : r.2.2 = 0
  · rw [rdO_ret k]
    have hm : (lim : Int) % 18446744073709551616 = lim := by omega
    try simp only [go_sem, reduceIte, Nat.reduceEqDiff, Nat.reduceAdd, Nat.reduceSub, Nat.reduceMul, Nat.reduceLT, Nat.reduceLeDiff, Nat.reducePow, Int.reduceToNat, Int.reduceLT, Int.reduceLE, Int.reduceEq, Int.reduceNe, Int.reduceAdd, Int.reduceSub, Int.reduceMul, Int.reduceNeg, hm]
    refine cd_dec (fun h => ?_) (fun h => ?_)
    · have h' : lim < r.1 := by omega
      try simp only [go_sem, reduceIte, Nat.reduceEqDiff, Nat.reduceAdd, Nat.reduceSub, Nat.reduceMul, Nat.reduceLT, Nat.reduceLeDiff, Nat.reducePow, Int.reduceToNat, Int.reduceLT, Int.reduceLE, Int.reduceEq, Int.reduceNe, Int.reduceAdd, Int.reduceSub, Int.reduceMul, Int.reduceNeg, ]
      refine cK_np (pfail_ok 2) ?_
      try simp only [go_sem, reduceIte, Nat.reduceEqDiff, Nat.reduceAdd, Nat.reduceSub, Nat.reduceMul, Nat.reduceLT, Nat.reduceLeDiff, Nat.reducePow, Int.reduceToNat, Int.reduceLT, Int.reduceLE, Int.reduceEq, Int.reduceNe, Int.reduceAdd, Int.reduceSub, Int.reduceMul, Int.reduceNeg, ]
      refine finP_var (b := q) (cs := rkC tk b r.2.1) (by simp [Heap.set]) ⟨?_, by simp [k, h'], rfl⟩
      simp [rdO, k, h']
    · have h' : ¬ lim < r.1 := by omega
      try simp only [go_sem, reduceIte, Nat.reduceEqDiff, Nat.reduceAdd, Nat.reduceSub, Nat.reduceMul, Nat.reduceLT, Nat.reduceLeDiff, Nat.reducePow, Int.reduceToNat, Int.reduceLT, Int.reduceLE, Int.reduceEq, Int.reduceNe, Int.reduceAdd, Int.reduceSub, Int.reduceMul, Int.reduceNeg, ]
      refine finK_var (b := q) (x := rkC tk b r.2.1) (by simp [Heap.set]) ⟨?_, by simp [k, h'], rfl⟩
      have e : IntKind.wrap .i64 (r.1 : Int) = r.1 := wrap_i64 (by omega) (by omega)
      simp [rdO, k, h', D.er, D.er1, e]
  · rw [rdO_pan k]
    try simp only [go_sem, reduceIte, Nat.reduceEqDiff, Nat.reduceAdd, Nat.reduceSub, Nat.reduceMul, Nat.reduceLT, Nat.reduceLeDiff, Nat.reducePow, Int.reduceToNat, Int.reduceLT, Int.reduceLE, Int.reduceEq, Int.reduceNe, Int.reduceAdd, Int.reduceSub, Int.reduceMul, Int.reduceNeg, ]
    refine finP_var (b := q) (cs := rkC tk b r.2.1) (by simp [Heap.set]) ⟨?_, by simp [k], rfl⟩
    simp [rdO, k]
theorem numF_le {b : List Nat} {lim : Nat} {p : Int} (h : (numF b lim p).2.2 = 0) : (numF b lim p).1 ≤ lim := by
  unfold numF at h ⊢
  split at h
  · cases h
  · rename_i g
    rw [if_neg g]
    exact Nat.le_of_not_lt fun h' => g ⟨h, h'⟩
theorem pid_ok (tk : Tk) (b : List Nat) (p : Int) (hb : Byt b) (prev : Int) : VRd P G 89 [.int .i64 prev] tk b p (.int .i64 (idF b prev p).1) (idF b prev p).2.1 (idF b prev p).2.2 := by
  have hr := pnumber_ok (G := G) tk b p hb 1073741824 (by omega)
  unfold VRd idF
  unfold VRd at hr
  generalize numF b 1073741824 p = r at hr ⊢
  intro q
  refine VC.ofs (fun | 99999999 => [(0, [0, 1, 4, 5, 10])] | _ => []) [4] mixed Tryz.func89 rfl rfl rfl rfl (by decide +kernel) (by simp) ?_
  try simp only [go_sem, reduceIte, Nat.reduceEqDiff, Nat.reduceAdd, Nat.reduceSub, Nat.reduceMul, Nat.reduceLT, Nat.reduceLeDiff, Nat.reducePow, Int.reduceToNat, Int.reduceLT, Int.reduceLE, Int.reduceEq, Int.reduceNe, Int.reduceAdd, Int.reduceSub, Int.reduceMul, Int.reduceNeg, ]
  refine cK_pp hr (hit_set rfl) ?_
  by_cases k : r.2.2 = 0
  · rw [rdO_ret k]
    try simp only [go_sem, reduceIte, Nat.reduceEqDiff, Nat.reduceAdd, Nat.reduceSub, Nat.reduceMul, Nat.reduceLT, Nat.reduceLeDiff, Nat.reducePow, Int.reduceToNat, Int.reduceLT, Int.reduceLE, Int.reduceEq, Int.reduceNe, Int.reduceAdd, Int.reduceSub, Int.reduceMul, Int.reduceNeg, ]
    refine cd_dec (fun h => ?_) (fun h => ?_)
    · try simp only [go_sem, reduceIte, Nat.reduceEqDiff, Nat.reduceAdd, Nat.reduceSub, Nat.reduceMul, Nat.reduceLT, Nat.reduceLeDiff, Nat.reducePow, Int.reduceToNat, Int.reduceLT, Int.reduceLE, Int.reduceEq, Int.reduceNe, Int.reduceAdd, Int.reduceSub, Int.reduceMul, Int.reduceNeg, ]
      refine cK_np (pfail_ok 5) ?_
      try simp only [go_sem, reduceIte, Nat.reduceEqDiff, Nat.reduceAdd, Nat.reduceSub, Nat.reduceMul, Nat.reduceLT, Nat.reduceLeDiff, Nat.reducePow, Int.reduceToNat, Int.reduceLT, Int.reduceLE, Int.reduceEq, Int.reduceNe, Int.reduceAdd, Int.reduceSub, Int.reduceMul, Int.reduceNeg, ]
      refine finP_var (b := q) (cs := rkC tk b r.2.1) (by simp [Heap.set]) ⟨?_, by simp [k, h], rfl⟩
      simp [rdO, k, h]
    · try simp only [go_sem, reduceIte, Nat.reduceEqDiff, Nat.reduceAdd, Nat.reduceSub, Nat.reduceMul, Nat.reduceLT, Nat.reduceLeDiff, Nat.reducePow, Int.reduceToNat, Int.reduceLT, Int.reduceLE, Int.reduceEq, Int.reduceNe, Int.reduceAdd, Int.reduceSub, Int.reduceMul, Int.reduceNeg, ]
      refine finK_var (b := q) (x := rkC tk b r.2.1) (by simp [Heap.set]) ⟨?_, by simp [k, h], rfl⟩
      simp [rdO, k, h, D.er, D.er1]
  · rw [rdO_pan k]
    try simp only [go_sem, reduceIte, Nat.reduceEqDiff, Nat.reduceAdd, Nat.reduceSub, Nat.reduceMul, Nat.reduceLT, Nat.reduceLeDiff, Nat.reducePow, Int.reduceToNat, Int.reduceLT, Int.reduceLE, Int.reduceEq, Int.reduceNe, Int.reduceAdd, Int.reduceSub, Int.reduceMul, Int.reduceNeg, ]
    refine finP_var (b := q) (cs := rkC tk b r.2.1) (by simp [Heap.set]) ⟨?_, by simp [k], rfl⟩
    simp [rdO, k]
end Go.Proofs.YtpblgfgcoamgmaaGreatS
namespace Go.Proofs.YtpblgfgcoamgmaaGreatS
open Go Go.Proofs.YtpblgfgcoamgmaaGreatV

variable {G : Heap}
attribute [local irreducible] VN VC VX VQ VY VW VTA VT0 VPP

def H3 (q br bp : Nat) (tk : Tk) (b : List Nat) (p prev : Int) : Heap := ((Heap.nil.set q (rkC tk b p)).set br [.pb q 0]).set bp [.int .i64 prev]
def cellF (b : List Nat) (prev p : Int) : Cl × Int × Int :=
  let i := idF b prev p
  if i.2.2 ≠ 0 then ((0, Vl.zero), i.2.1, i.2.2) else
  let n := rS b i.2.1
  if n.2.2 ≠ 0 then ((0, Vl.zero), n.2.1, n.2.2) else
  let t := rT b n.2.1
  if t.2.2 ≠ 0 then ((0, Vl.zero), t.2.1, t.2.2) else
  if 200 < (t.1.size : Int) then ((0, Vl.zero), t.2.1, 2) else (((i.1 : Int), ⟨false, n.1, t.1⟩), t.2.1, 0)
def r3Q (q br bp : Nat) (tk : Tk) (b : List Nat) (d : D) (prev p e : Int) (o : Out) (β : Heap) (ω : List Nat) : Prop :=
  ω = [] ∧ if e = 0 then o = .ret d ∧ β = H3 q br bp tk b p prev else o = .pan (errD e) ∧ β = Heap.nil.set q (rkC tk b p)
theorem r3Q_bad {q br bp : Nat} {tk : Tk} {b : List Nat} {d : D} {prev p e : Int} {β : Heap} {ω : List Nat} (he : ¬ e = 0) (hq : β q = some (rkC tk b p)) : finP (r3Q q br bp tk b d prev p e) (errD e) β ω :=
  finP_var hq ⟨rfl, by rw [if_neg he]; exact ⟨rfl, rfl⟩⟩
theorem r3Q_ok {q br bp : Nat} {tk : Tk} {b : List Nat} {d d' : D} {prev p e : Int} {β : Heap} {ω : List Nat} (he : e = 0) (hd : d'.er = d) (hq : β q = some (rkC tk b p)) (hr : β br = some [.pb q 0]) (hp : β bp = some [.int .i64 prev]) : finK (r3Q q br bp tk b d prev p e) d' β ω := by
  refine ⟨d, H3 q br bp tk b p prev, [], hd ▸ Wk.er d', fun b' cs h => ?_, fun _ h => (List.not_mem_nil h).elim, rfl, by rw [if_pos he]; exact ⟨rfl, rfl⟩⟩
  unfold H3 Heap.set at h
  split at h
  · rename_i e1; subst e1; cases h; exact hp
  · split at h
    · rename_i e1; subst e1; cases h; exact hr
    · split at h
      · rename_i e1; subst e1; cases h; exact hq
      · cases h
theorem cell_ok (tk : Tk) (b : List Nat) (hb : Byt b) (prev p : Int) {q br bp : Nat} (h1 : q ≠ br) (h2 : q ≠ bp) (h3 : br ≠ bp) :
    VC P G 88 [.pb br 0, .pb bp 0] (H3 q br bp tk b p prev) [] (r3Q q br bp tk b (clD (cellF b prev p).1) (cellF b prev p).1.1 (cellF b prev p).2.1 (cellF b prev p).2.2) := by
  have hi := pid_ok (G := G) tk b p hb prev
  unfold VRd at hi
  unfold cellF
  generalize idF b prev p = i at hi ⊢
  refine VC.ofc (fun | 99999999 => [(0, [0, 1, 2, 3, 21])] | _ => []) [.cell 2 83] mixed Tryz.func88 rfl rfl rfl rfl (by decide +kernel) (by simp) ?_
  have eq : H3 q br bp tk b p prev q = some (rkC tk b p) := by simp [H3, Heap.set, h1, h2]
  have er : H3 q br bp tk b p prev br = some [.pb q 0] := by simp [H3, Heap.set, h3]
  have ep : H3 q br bp tk b p prev bp = some [.int .i64 prev] := by simp [H3, Heap.set]
  generalize hH : H3 q br bp tk b p prev = β0 at eq er ep ⊢
  have N : q ≠ br ∧ br ≠ q ∧ q ≠ bp ∧ bp ≠ q ∧ br ≠ bp ∧ bp ≠ br := ⟨h1, h1.symm, h2, h2.symm, h3, h3.symm⟩
  have eq0 := eq
  have er0 := er
  have ep0 := ep
  try simp only [go_sem, reduceIte, Nat.reduceEqDiff, Nat.reduceAdd, Nat.reduceSub, Nat.reduceMul, Nat.reduceLT, Nat.reduceLeDiff, Nat.reducePow, Int.reduceToNat, Int.reduceLT, Int.reduceLE, Int.reduceEq, Int.reduceNe, Int.reduceAdd, Int.reduceSub, Int.reduceMul, Int.reduceNeg, ]
  refine new_any fun b2 hb2 => ?_
  have N := And.intro N (box_ne hb2 eq)
  have N := And.intro N (box_ne hb2 er)
  have N := And.intro N (box_ne hb2 ep)
  generalize hβ_ : Heap.set _ b2 _ = β_
  have e2 := hit_set hβ_
  have eq := keep_new hβ_ hb2 eq
  have er := keep_new hβ_ hb2 er
  have ep := keep_new hβ_ hb2 ep
  clear hβ_ hb2
  try simp only [go_sem, reduceIte, Nat.reduceEqDiff, Nat.reduceAdd, Nat.reduceSub, Nat.reduceMul, Nat.reduceLT, Nat.reduceLeDiff, Nat.reducePow, Int.reduceToNat, Int.reduceLT, Int.reduceLE, Int.reduceEq, Int.reduceNe, Int.reduceAdd, Int.reduceSub, Int.reduceMul, Int.reduceNeg, N, eq0, er0, ep0, eq, er, ep]
  refine cK_pp hi eq ?_
  generalize hβ_ : Heap.set _ q _ = β_
  have er := keep_ne hβ_ (by simp [N]) er
  have ep := keep_ne hβ_ (by simp [N]) ep
  have e2 := keep_ne hβ_ (by simp [N]) e2
  have eq := hit_set hβ_
  clear hβ_
  by_cases k : i.2.2 = 0
  rotate_left
  · rw [rdO_pan k]
    simp only [ne_eq, k, not_false_eq_true, if_true]
    try simp only [go_sem, reduceIte, Nat.reduceEqDiff, Nat.reduceAdd, Nat.reduceSub, Nat.reduceMul, Nat.reduceLT, Nat.reduceLeDiff, Nat.reducePow, Int.reduceToNat, Int.reduceLT, Int.reduceLE, Int.reduceEq, Int.reduceNe, Int.reduceAdd, Int.reduceSub, Int.reduceMul, Int.reduceNeg, ]
    exact r3Q_bad k eq
  rw [rdO_ret k]
  simp only [ne_eq, k, not_true_eq_false, if_false]
  have hn := preadS_ok (G := G) tk b i.2.1 hb
  unfold VRd at hn
  generalize rS b i.2.1 = n at hn ⊢
  try simp only [go_sem, reduceIte, Nat.reduceEqDiff, Nat.reduceAdd, Nat.reduceSub, Nat.reduceMul, Nat.reduceLT, Nat.reduceLeDiff, Nat.reducePow, Int.reduceToNat, Int.reduceLT, Int.reduceLE, Int.reduceEq, Int.reduceNe, Int.reduceAdd, Int.reduceSub, Int.reduceMul, Int.reduceNeg, N, er, ep, eq]
  generalize hβ_ : Heap.set _ bp _ = β_
  have er := keep_ne hβ_ (by simp [N]) er
  have eq := keep_ne hβ_ (by simp [N]) eq
  have e2 := keep_ne hβ_ (by simp [N]) e2
  have ep := hit_set hβ_
  clear hβ_
  try simp only [go_sem, reduceIte, Nat.reduceEqDiff, Nat.reduceAdd, Nat.reduceSub, Nat.reduceMul, Nat.reduceLT, Nat.reduceLeDiff, Nat.reducePow, Int.reduceToNat, Int.reduceLT, Int.reduceLE, Int.reduceEq, Int.reduceNe, Int.reduceAdd, Int.reduceSub, Int.reduceMul, Int.reduceNeg, N, er, ep, eq]
  refine new_any fun b3 hb3 => ?_
  have N := And.intro N (box_ne hb3 eq)
  have N := And.intro N (box_ne hb3 er)
  have N := And.intro N (box_ne hb3 ep)
  have N := And.intro N (box_ne hb3 e2)
  generalize hβ_ : Heap.set _ b3 _ = β_
  have e3 := hit_set hβ_
  have eq := keep_new hβ_ hb3 eq
  have er := keep_new hβ_ hb3 er
  have ep := keep_new hβ_ hb3 ep
  have e2 := keep_new hβ_ hb3 e2
  clear hβ_ hb3
  try simp only [go_sem, reduceIte, Nat.reduceEqDiff, Nat.reduceAdd, Nat.reduceSub, Nat.reduceMul, Nat.reduceLT, Nat.reduceLeDiff, Nat.reducePow, Int.reduceToNat, Int.reduceLT, Int.reduceLE, Int.reduceEq, Int.reduceNe, Int.reduceAdd, Int.reduceSub, Int.reduceMul, Int.reduceNeg, N, er, ep, eq]
  refine cK_pp hn eq ?_
  generalize hβ_ : Heap.set _ q _ = β_
  have er := keep_ne hβ_ (by simp [N]) er
  have ep := keep_ne hβ_ (by simp [N]) ep
  have e2 := keep_ne hβ_ (by simp [N]) e2
  have e3 := keep_ne hβ_ (by simp [N]) e3
  have eq := hit_set hβ_
  clear hβ_
  by_cases k : n.2.2 = 0
  rotate_left
  · rw [rdO_pan k]
    simp only [k, not_false_eq_true, if_true]
    try simp only [go_sem, reduceIte, Nat.reduceEqDiff, Nat.reduceAdd, Nat.reduceSub, Nat.reduceMul, Nat.reduceLT, Nat.reduceLeDiff, Nat.reducePow, Int.reduceToNat, Int.reduceLT, Int.reduceLE, Int.reduceEq, Int.reduceNe, Int.reduceAdd, Int.reduceSub, Int.reduceMul, Int.reduceNeg, ]
    exact r3Q_bad k eq
  rw [rdO_ret k]
  simp only [k, not_true_eq_false, if_false]
  have ht := preadT_ok (G := G) tk b n.2.1 hb
  unfold VRd at ht
  generalize rT b n.2.1 = t at ht ⊢
  try simp only [go_sem, reduceIte, Nat.reduceEqDiff, Nat.reduceAdd, Nat.reduceSub, Nat.reduceMul, Nat.reduceLT, Nat.reduceLeDiff, Nat.reducePow, Int.reduceToNat, Int.reduceLT, Int.reduceLE, Int.reduceEq, Int.reduceNe, Int.reduceAdd, Int.reduceSub, Int.reduceMul, Int.reduceNeg, N, er, ep, eq, e3]
  generalize hβ_ : Heap.set _ b3 _ = β_
  have eq := keep_ne hβ_ (by simp [N]) eq
  have er := keep_ne hβ_ (by simp [N]) er
  have ep := keep_ne hβ_ (by simp [N]) ep
  have e2 := keep_ne hβ_ (by simp [N]) e2
  have e3 := hit_set hβ_
  clear hβ_
  refine cK_pp ht eq ?_
  generalize hβ_ : Heap.set _ q _ = β_
  have er := keep_ne hβ_ (by simp [N]) er
  have ep := keep_ne hβ_ (by simp [N]) ep
  have e2 := keep_ne hβ_ (by simp [N]) e2
  have e3 := keep_ne hβ_ (by simp [N]) e3
  have eq := hit_set hβ_
  clear hβ_
  by_cases k : t.2.2 = 0
  rotate_left
  · rw [rdO_pan k]
    simp only [k, not_false_eq_true, if_true]
    try simp only [go_sem, reduceIte, Nat.reduceEqDiff, Nat.reduceAdd, Nat.reduceSub, Nat.reduceMul, Nat.reduceLT, Nat.reduceLeDiff, Nat.reducePow, Int.reduceToNat, Int.reduceLT, Int.reduceLE, Int.reduceEq, Int.reduceNe, Int.reduceAdd, Int.reduceSub, Int.reduceMul, Int.reduceNeg, ]
    exact r3Q_bad k eq
  rw [rdO_ret k]
  simp only [k, not_true_eq_false, if_false]
  try simp only [go_sem, reduceIte, Nat.reduceEqDiff, Nat.reduceAdd, Nat.reduceSub, Nat.reduceMul, Nat.reduceLT, Nat.reduceLeDiff, Nat.reducePow, Int.reduceToNat, Int.reduceLT, Int.reduceLE, Int.reduceEq, Int.reduceNe, Int.reduceAdd, Int.reduceSub, Int.reduceMul, Int.reduceNeg, N, er, ep, eq, e3]
  generalize hβ_ : Heap.set _ b3 _ = β_
  have eq := keep_ne hβ_ (by simp [N]) eq
  have er := keep_ne hβ_ (by simp [N]) er
  have ep := keep_ne hβ_ (by simp [N]) ep
  have e2 := keep_ne hβ_ (by simp [N]) e2
  have e3 := hit_set hβ_
  clear hβ_
  try simp only [go_sem, reduceIte, Nat.reduceEqDiff, Nat.reduceAdd, Nat.reduceSub, Nat.reduceMul, Nat.reduceLT, Nat.reduceLeDiff, Nat.reducePow, Int.reduceToNat, Int.reduceLT, Int.reduceLE, Int.reduceEq, Int.reduceNe, Int.reduceAdd, Int.reduceSub, Int.reduceMul, Int.reduceNeg, N, er, ep, eq, e3]
  refine cd_dec (fun h => ?_) (fun h => ?_)
  · simp only [h, if_true]
    try simp only [go_sem, reduceIte, Nat.reduceEqDiff, Nat.reduceAdd, Nat.reduceSub, Nat.reduceMul, Nat.reduceLT, Nat.reduceLeDiff, Nat.reducePow, Int.reduceToNat, Int.reduceLT, Int.reduceLE, Int.reduceEq, Int.reduceNe, Int.reduceAdd, Int.reduceSub, Int.reduceMul, Int.reduceNeg, ]
    refine cK_np (pfail_ok 2) ?_
    try simp only [go_sem, reduceIte, Nat.reduceEqDiff, Nat.reduceAdd, Nat.reduceSub, Nat.reduceMul, Nat.reduceLT, Nat.reduceLeDiff, Nat.reducePow, Int.reduceToNat, Int.reduceLT, Int.reduceLE, Int.reduceEq, Int.reduceNe, Int.reduceAdd, Int.reduceSub, Int.reduceMul, Int.reduceNeg, ]
    exact r3Q_bad (by decide) eq
  · simp only [h, if_false]
    try simp only [go_sem, reduceIte, Nat.reduceEqDiff, Nat.reduceAdd, Nat.reduceSub, Nat.reduceMul, Nat.reduceLT, Nat.reduceLeDiff, Nat.reducePow, Int.reduceToNat, Int.reduceLT, Int.reduceLE, Int.reduceEq, Int.reduceNe, Int.reduceAdd, Int.reduceSub, Int.reduceMul, Int.reduceNeg, N, er, ep, eq, e2, e3]
    generalize hβ_ : Heap.set _ b2 _ = β_
    have eq := keep_ne hβ_ (by simp [N]) eq
    have er := keep_ne hβ_ (by simp [N]) er
    have ep := keep_ne hβ_ (by simp [N]) ep
    have e2 := hit_set hβ_
    clear hβ_
    exact r3Q_ok rfl rfl eq er ep
def listF {α σ : Type} (el : σ → α × σ × Int) : Nat → List α → σ → List α × σ × Int
  | 0, l, s => (l, s, 0)
  | n + 1, l, s => if (el s).2.2 = 0 then listF el n (l ++ [(el s).1]) (el s).2.1 else (l, (el s).2.1, (el s).2.2)
section
variable {β0 : Heap} {ω0 : List Nat} {Φ0 : Out → Heap → List Nat → Prop} {args : List D} {d : D} {β : Heap} {ω : List Nat} {ops : Array Oper} {rest : List Oper} {Q : VE → St → Prop} {dst : Option Tmp} {σ : Sg}
theorem cK_frp {P : Program} (h : VCall P G d args β0 ω0 Φ0) (hp : Part β0 ω0 β ω)
    (hk : ∀ r β1 ω1 β' ω', Φ0 (.ret r) β1 ω1 → Part β1 ω1 β' ω' → (∀ b cs, β b = some cs → β0 b = none → β' b = some cs) → ω' = joinT ω ω0 ω1 → Ko P G ops rest Q dst σ r β' ω')
    (hq : ∀ r β1 ω1 β' ω', Φ0 (.pan r) β1 ω1 → Part β1 ω1 β' ω' → Q (.panic r) ⟨σ, β', ω'⟩) : cK P G d args β ω ops rest Q dst σ := by
  unfold cK callK
  refine (VCall.frame h hp).mono fun o β' ω' hf => ?_
  obtain ⟨β1, ω1, h1, h2, _, rfl, rfl⟩ := hf
  cases o with
  | ret r => exact hk r β1 ω1 _ _ h1 part_join (fun b cs e e0 => join_keep h2 e e0) rfl
  | pan r => exact hq r β1 ω1 _ _ h1 part_join
end
theorem H3_part {q br bp : Nat} {tk : Tk} {b : List Nat} {prev p : Int} {β : Heap} {ω : List Nat} (hq : β q = some (rkC tk b p)) (hr : β br = some [.pb q 0]) (hp : β bp = some [.int .i64 prev]) : Part (H3 q br bp tk b p prev) [] β ω := by
  refine ⟨fun b' cs h => ?_, fun t ht => by simp at ht⟩
  unfold H3 Heap.set at h
  split at h
  · rename_i e1; subst e1; cases h; exact hp
  · split at h
    · rename_i e1; subst e1; cases h; exact hr
    · split at h
      · rename_i e1; subst e1; cases h; exact hq
      · cases h
theorem H3_get {q br bp : Nat} {tk : Tk} {b : List Nat} {prev p : Int} {β : Heap} {ω : List Nat} (h1 : q ≠ br) (h2 : q ≠ bp) (h3 : br ≠ bp) (h : Part (H3 q br bp tk b p prev) [] β ω) : β q = some (rkC tk b p) ∧ β br = some [.pb q 0] ∧ β bp = some [.int .i64 prev] :=
  ⟨h.1 _ _ (by simp [H3, Heap.set, h1, h2]), h.1 _ _ (by simp [H3, Heap.set, h3]), h.1 _ _ (by simp [H3, Heap.set])⟩
def elC (b : List Nat) (s : Int × Int) : Cl × (Int × Int) × Int := ((cellF b s.1 s.2).1, ((cellF b s.1 s.2).1.1, (cellF b s.1 s.2).2.1), (cellF b s.1 s.2).2.2)
def cellsF (b : List Nat) (s : Int × Int) : List Cl × (Int × Int) × Int :=
  if (numF b 64 s.2).2.2 = 0 then listF (elC b) (numF b 64 s.2).1 [] (s.1, (numF b 64 s.2).2.1) else ([], (s.1, (numF b 64 s.2).2.1), (numF b 64 s.2).2.2)
theorem cells_ok (tk : Tk) (b : List Nat) (hb : Byt b) (prev p : Int) {q br bp : Nat} (h1 : q ≠ br) (h2 : q ≠ bp) (h3 : br ≠ bp) :
    VC P G 87 [.pb q 0, .int .i64 64, .clo (.func 88) [] [.pb br 0, .pb bp 0]] (H3 q br bp tk b p prev) [] (r3Q q br bp tk b (.sl .none ((cellsF b (prev, p)).1.map clD)) (cellsF b (prev, p)).2.1.1 (cellsF b (prev, p)).2.1.2 (cellsF b (prev, p)).2.2) := by
  have hi := pnumber_ok (G := G) tk b p hb 64 (by omega)
  unfold VRd at hi
  have hle := numF_le (b := b) (lim := 64) (p := p)
  obtain ⟨V, hV⟩ : ∃ V, cellsF b (prev, p) = V := ⟨_, rfl⟩
  rw [hV]
  unfold cellsF at hV
  dsimp only at hV
  generalize numF b 64 p = i at hi hle hV
  refine VC.ofs (fun | 99999999 => [(0, [0, 1, 2, 6, 7, 10, 11, 12])] | _ => []) [6] mixed Tryz.func87 rfl rfl rfl rfl (by decide +kernel) (by simp) ?_
  have eq : H3 q br bp tk b p prev q = some (rkC tk b p) := by simp [H3, Heap.set, h1, h2]
  have er : H3 q br bp tk b p prev br = some [.pb q 0] := by simp [H3, Heap.set, h3]
  have ep : H3 q br bp tk b p prev bp = some [.int .i64 prev] := by simp [H3, Heap.set]
  generalize hH : H3 q br bp tk b p prev = β0 at eq er ep ⊢
  have N : q ≠ br ∧ br ≠ q ∧ q ≠ bp ∧ bp ≠ q ∧ br ≠ bp ∧ bp ≠ br := ⟨h1, h1.symm, h2, h2.symm, h3, h3.symm⟩
  try simp only [go_sem, reduceIte, Nat.reduceEqDiff, Nat.reduceAdd, Nat.reduceSub, Nat.reduceMul, Nat.reduceLT, Nat.reduceLeDiff, Nat.reducePow, Int.reduceToNat, Int.reduceLT, Int.reduceLE, Int.reduceEq, Int.reduceNe, Int.reduceAdd, Int.reduceSub, Int.reduceMul, Int.reduceNeg, ]
  refine cK_pp hi eq ?_
  generalize hβ_ : Heap.set _ q _ = β_
  have er := keep_ne hβ_ (by simp [N]) er
  have ep := keep_ne hβ_ (by simp [N]) ep
  have eq := hit_set hβ_
  clear hβ_
  by_cases k : i.2.2 = 0
  rotate_left
  · rw [rdO_pan k]
    rw [if_neg k] at hV
    subst hV
    try simp only [go_sem, reduceIte, Nat.reduceEqDiff, Nat.reduceAdd, Nat.reduceSub, Nat.reduceMul, Nat.reduceLT, Nat.reduceLeDiff, Nat.reducePow, Int.reduceToNat, Int.reduceLT, Int.reduceLE, Int.reduceEq, Int.reduceNe, Int.reduceAdd, Int.reduceSub, Int.reduceMul, Int.reduceNeg, ]
    exact r3Q_bad k eq
  rw [rdO_ret k]
  rw [if_pos k] at hV
  have hle := hle k
  try simp only [go_sem, reduceIte, Nat.reduceEqDiff, Nat.reduceAdd, Nat.reduceSub, Nat.reduceMul, Nat.reduceLT, Nat.reduceLeDiff, Nat.reducePow, Int.reduceToNat, Int.reduceLT, Int.reduceLE, Int.reduceEq, Int.reduceNe, Int.reduceAdd, Int.reduceSub, Int.reduceMul, Int.reduceNeg, ]
  refine vwq_loop (fun v => ∃ (j : Nat) (l : List Cl) (s : Int × Int) (t : Tk), j ≤ i.1 ∧ l.length = j ∧ listF (elC b) (i.1 - j) l s = V ∧ TW 4 t v.ω ∧ v.β q = some (rkC tk b s.2) ∧ v.β br = some [.pb q 0] ∧ v.β bp = some [.int .i64 s.1] ∧ v.σ 2 = .clo (.func 88) [] [.pb br 0, .pb bp 0] ∧ v.σ 7 = .sl t (l.map clD) ∧ v.σ 10 = .int .i64 i.1 ∧ v.σ 11 = .int .i64 j) (fun v => i.1 - (ival (v.σ 11)).toNat) ⟨0, [], _, .full, by omega, rfl, hV, TW.full 4, eq, er, ep, rfl, rfl, rfl, rfl⟩ ?_
  clear hV eq er ep
  rintro σ β ω ⟨j, l, s, t, hj, hl, hV, hw, eq, er, ep, q2, q7, q10, q11⟩
  dsimp only at hw eq er ep q2 q7 q10 q11
  have hto := hw.ok
  have htg := hw.gone
  try simp only [go_sem, reduceIte, Nat.reduceEqDiff, Nat.reduceAdd, Nat.reduceSub, Nat.reduceMul, Nat.reduceLT, Nat.reduceLeDiff, Nat.reducePow, Int.reduceToNat, Int.reduceLT, Int.reduceLE, Int.reduceEq, Int.reduceNe, Int.reduceAdd, Int.reduceSub, Int.reduceMul, Int.reduceNeg, q2, q7, q10, q11]
  refine cd_dec (fun g => ?_) (fun g => ?_)
  · have wj := wrap_i64 (x := (j : Int) + 1) (by omega) (by omega)
    obtain ⟨n', hn'⟩ : ∃ n', i.1 - j = n' + 1 := ⟨i.1 - j - 1, by omega⟩
    rw [hn', listF] at hV
    try simp only [go_sem, reduceIte, Nat.reduceEqDiff, Nat.reduceAdd, Nat.reduceSub, Nat.reduceMul, Nat.reduceLT, Nat.reduceLeDiff, Nat.reducePow, Int.reduceToNat, Int.reduceLT, Int.reduceLE, Int.reduceEq, Int.reduceNe, Int.reduceAdd, Int.reduceSub, Int.reduceMul, Int.reduceNeg, q2, q7, q10, q11]
    have hc : VC P G 88 [.pb br 0, .pb bp 0] (H3 q br bp tk b s.2 s.1) [] (r3Q q br bp tk b (clD (elC b s).1) (elC b s).2.1.1 (elC b s).2.1.2 (elC b s).2.2) := cell_ok tk b hb s.1 s.2 h1 h2 h3
    generalize elC b s = c at hV hc
    refine cK_frp hc (H3_part eq er ep) (fun r β1 ω1 β' ω' hΦ hP _ hω => ?_) (fun r β1 ω1 β' ω' hΦ hP => ?_)
    · obtain ⟨rfl, hΦ⟩ := hΦ
      by_cases ke : c.2.2 = 0
      rotate_left
      · rw [if_neg ke] at hΦ; cases hΦ.1
      rw [if_pos ke] at hΦ hV
      obtain ⟨hr, rfl⟩ := hΦ
      cases hr
      obtain ⟨eq', er', ep'⟩ := H3_get h1 h2 h3 hP
      have e9 : ω' = ω := by rw [hω]; simp [joinT]
      subst e9
      try simp only [go_sem, reduceIte, Nat.reduceEqDiff, Nat.reduceAdd, Nat.reduceSub, Nat.reduceMul, Nat.reduceLT, Nat.reduceLeDiff, Nat.reducePow, Int.reduceToNat, Int.reduceLT, Int.reduceLE, Int.reduceEq, Int.reduceNe, Int.reduceAdd, Int.reduceSub, Int.reduceMul, Int.reduceNeg, q2, q7, q10, q11, hto, htg, wj]
      refine ⟨⟨trivial, rfl, rfl⟩, ⟨rfl, rfl⟩, fun x hx => ?_, by simp only [List.length_map]; omega, fun t' _ => ⟨⟨j + 1, l ++ [c.1], c.2.1, .live t' 4, by omega, by simp [hl], ?_, TW.live 4 t', eq', er', ep', ?_⟩, by omega⟩⟩
      · obtain ⟨y, _, rfl⟩ := List.mem_map.1 hx
        rfl
      · rw [show i.1 - (j + 1) = n' by omega]; exact hV
      · exact ⟨by rw [List.map_append]; rfl, rfl⟩
    · obtain ⟨rfl, hΦ⟩ := hΦ
      by_cases ke : c.2.2 = 0
      · rw [if_pos ke] at hΦ; cases hΦ.1
      rw [if_neg ke] at hΦ hV
      obtain ⟨hr, rfl⟩ := hΦ
      cases hr
      subst hV
      try simp only [go_sem, reduceIte, Nat.reduceEqDiff, Nat.reduceAdd, Nat.reduceSub, Nat.reduceMul, Nat.reduceLT, Nat.reduceLeDiff, Nat.reducePow, Int.reduceToNat, Int.reduceLT, Int.reduceLE, Int.reduceEq, Int.reduceNe, Int.reduceAdd, Int.reduceSub, Int.reduceMul, Int.reduceNeg, ]
      exact r3Q_bad ke (hP.1 _ _ (by simp [Heap.set]))
  · try simp only [go_sem, reduceIte, Nat.reduceEqDiff, Nat.reduceAdd, Nat.reduceSub, Nat.reduceMul, Nat.reduceLT, Nat.reduceLeDiff, Nat.reducePow, Int.reduceToNat, Int.reduceLT, Int.reduceLE, Int.reduceEq, Int.reduceNe, Int.reduceAdd, Int.reduceSub, Int.reduceMul, Int.reduceNeg, q2, q7, q10, q11]
    obtain rfl : j = i.1 := by omega
    rw [Nat.sub_self, listF] at hV
    subst hV
    exact r3Q_ok rfl (by simp [D.er, D.er1]) eq er ep
end Go.Proofs.YtpblgfgcoamgmaaGreatS
namespace Go.Proofs.YtpblgfgcoamgmaaGreatS
open Go Go.Proofs.YtpblgfgcoamgmaaGreatV

variable {G : Heap}
attribute [local irreducible] VN VC VX VQ VY VW VTA VT0 VPP

def r1Q (q : Nat) (tk : Tk) (b : List Nat) (d : D) (p e : Int) (o : Out) (β : Heap) (ω : List Nat) : Prop := o = rdO d e ∧ β = Heap.nil.set q (rkC tk b p) ∧ ω = []
theorem r1Q_bad {q : Nat} {tk : Tk} {b : List Nat} {d : D} {p e : Int} {β : Heap} {ω : List Nat} (he : ¬ e = 0) (hq : β q = some (rkC tk b p)) : finP (r1Q q tk b d p e) (errD e) β ω :=
  finP_var hq (show _ ∧ _ from ⟨(rdO_pan he).symm, rfl, rfl⟩)
theorem r1Q_ok {q : Nat} {tk : Tk} {b : List Nat} {d d' : D} {p e : Int} {β : Heap} {ω : List Nat} (he : e = 0) (hd : d'.er = d) (hq : β q = some (rkC tk b p)) : finK (r1Q q tk b d p e) d' β ω :=
  finK_var hq (show _ ∧ _ from ⟨by rw [rdO_ret he, hd], rfl, rfl⟩)
def rowF (b : List Nat) (p : Int) : Rw × Int × Int := ((cellsF b (0, p)).1, (cellsF b (0, p)).2.1.2, (cellsF b (0, p)).2.2)
theorem prow_ok (tk : Tk) (b : List Nat) (p : Int) (hb : Byt b) : VRd P G 47 [] tk b p (rwD (rowF b p).1) (rowF b p).2.1 (rowF b p).2.2 := by
  have hc := fun q br bp h1 h2 h3 => cells_ok (G := G) tk b hb 0 p (q := q) (br := br) (bp := bp) h1 h2 h3
  unfold VRd rowF
  dsimp only
  generalize cellsF b (0, p) = c at hc ⊢
  unfold VPP
  intro q
  refine VC.ofc (fun | 99999999 => [(0, [0, 1, 2, 3])] | _ => []) [.cell 2 52] mixed Tryz.func47 rfl rfl rfl rfl (by decide +kernel) (by simp) ?_
  generalize hβ : Heap.set Heap.nil q (rkC tk b p) = β0
  have eq : β0 q = some (rkC tk b p) := hit_set hβ
  clear hβ
  have N := trivial
  try simp only [go_sem, reduceIte, Nat.reduceEqDiff, Nat.reduceAdd, Nat.reduceSub, Nat.reduceMul, Nat.reduceLT, Nat.reduceLeDiff, Nat.reducePow, Int.reduceToNat, Int.reduceLT, Int.reduceLE, Int.reduceEq, Int.reduceNe, Int.reduceAdd, Int.reduceSub, Int.reduceMul, Int.reduceNeg, ]
  refine new_any fun b1 hb1 => ?_
  have N := And.intro N (box_ne hb1 eq)
  generalize hβ_ : Heap.set _ b1 _ = β_
  have e1 := hit_set hβ_
  have eq := keep_new hβ_ hb1 eq
  clear hβ_ hb1
  try simp only [go_sem, reduceIte, Nat.reduceEqDiff, Nat.reduceAdd, Nat.reduceSub, Nat.reduceMul, Nat.reduceLT, Nat.reduceLeDiff, Nat.reducePow, Int.reduceToNat, Int.reduceLT, Int.reduceLE, Int.reduceEq, Int.reduceNe, Int.reduceAdd, Int.reduceSub, Int.reduceMul, Int.reduceNeg, N, eq, e1]
  refine new_any fun b2 hb2 => ?_
  have N := And.intro N (box_ne hb2 eq)
  have N := And.intro N (box_ne hb2 e1)
  generalize hβ_ : Heap.set _ b2 _ = β_
  have e2 := hit_set hβ_
  have eq := keep_new hβ_ hb2 eq
  have e1 := keep_new hβ_ hb2 e1
  clear hβ_ hb2
  try simp only [go_sem, reduceIte, Nat.reduceEqDiff, Nat.reduceAdd, Nat.reduceSub, Nat.reduceMul, Nat.reduceLT, Nat.reduceLeDiff, Nat.reducePow, Int.reduceToNat, Int.reduceLT, Int.reduceLE, Int.reduceEq, Int.reduceNe, Int.reduceAdd, Int.reduceSub, Int.reduceMul, Int.reduceNeg, N, eq, e1, e2]
  refine new_any fun b3 hb3 => ?_
  have N := And.intro N (box_ne hb3 eq)
  have N := And.intro N (box_ne hb3 e1)
  have N := And.intro N (box_ne hb3 e2)
  generalize hβ_ : Heap.set _ b3 _ = β_
  have e3 := hit_set hβ_
  have eq := keep_new hβ_ hb3 eq
  have e1 := keep_new hβ_ hb3 e1
  have e2 := keep_new hβ_ hb3 e2
  clear hβ_ hb3
  try simp only [go_sem, reduceIte, Nat.reduceEqDiff, Nat.reduceAdd, Nat.reduceSub, Nat.reduceMul, Nat.reduceLT, Nat.reduceLeDiff, Nat.reducePow, Int.reduceToNat, Int.reduceLT, Int.reduceLE, Int.reduceEq, Int.reduceNe, Int.reduceAdd, Int.reduceSub, Int.reduceMul, Int.reduceNeg, N, eq, e1, e2, e3]
  refine cK_frp (hc q b1 b3 (by simp [N]) (by simp [N]) (by simp [N])) (H3_part eq e1 e3) (fun r β1 ω1 β' ω' hΦ hP hk hω => ?_) (fun r β1 ω1 β' ω' hΦ hP => ?_)
  · obtain ⟨rfl, hΦ⟩ := hΦ
    by_cases ke : c.2.2 = 0
    rotate_left
    · rw [if_neg ke] at hΦ; cases hΦ.1
    rw [if_pos ke] at hΦ
    obtain ⟨hr, rfl⟩ := hΦ
    cases hr
    obtain ⟨eq', e1', e3'⟩ := H3_get (by simp [N]) (by simp [N]) (by simp [N]) hP
    have e2' := hk b2 _ e2 (by simp [H3, Heap.set, N]; rfl)
    try simp only [go_sem, reduceIte, Nat.reduceEqDiff, Nat.reduceAdd, Nat.reduceSub, Nat.reduceMul, Nat.reduceLT, Nat.reduceLeDiff, Nat.reducePow, Int.reduceToNat, Int.reduceLT, Int.reduceLE, Int.reduceEq, Int.reduceNe, Int.reduceAdd, Int.reduceSub, Int.reduceMul, Int.reduceNeg, N, e1', e2']
    refine finK_var (b := q) (x := rkC tk b c.2.1.2) (by simp [Heap.set, N, eq']) ⟨?_, rfl, rfl⟩
    rw [rdO_ret ke]
    rfl
  · obtain ⟨rfl, hΦ⟩ := hΦ
    by_cases ke : c.2.2 = 0
    · rw [if_pos ke] at hΦ; cases hΦ.1
    rw [if_neg ke] at hΦ
    obtain ⟨hr, rfl⟩ := hΦ
    cases hr
    try simp only [go_sem, reduceIte, Nat.reduceEqDiff, Nat.reduceAdd, Nat.reduceSub, Nat.reduceMul, Nat.reduceLT, Nat.reduceLeDiff, Nat.reducePow, Int.reduceToNat, Int.reduceLT, Int.reduceLE, Int.reduceEq, Int.reduceNe, Int.reduceAdd, Int.reduceSub, Int.reduceMul, Int.reduceNeg, ]
    refine finP_var (b := q) (cs := rkC tk b c.2.1.2) (hP.1 _ _ (by simp [Heap.set])) ⟨?_, rfl, rfl⟩
    rw [rdO_pan ke]
def rowsF (b : List Nat) (p : Int) : List Rw × Int × Int :=
  if (numF b 4096 p).2.2 = 0 then listF (rowF b) (numF b 4096 p).1 [] (numF b 4096 p).2.1 else ([], (numF b 4096 p).2.1, (numF b 4096 p).2.2)
theorem prows_ok (tk : Tk) (b : List Nat) (p : Int) (hb : Byt b) : VPP P G 46 (fun q => [.pb q 0, .int .i64 4096, .clo (.func 47) [.pb q 0] []]) (rkC tk b p) (rdO (.sl .none ((rowsF b p).1.map rwD)) (rowsF b p).2.2) (rkC tk b (rowsF b p).2.1) := by
  have hi := pnumber_ok (G := G) tk b p hb 4096 (by omega)
  unfold VRd at hi
  have hle := numF_le (b := b) (lim := 4096) (p := p)
  obtain ⟨V, hV⟩ : ∃ V, rowsF b p = V := ⟨_, rfl⟩
  rw [hV]
  unfold rowsF at hV
  generalize numF b 4096 p = i at hi hle hV
  unfold VPP
  intro q
  show VC _ _ _ _ _ _ (r1Q q tk b (.sl .none (V.1.map rwD)) V.2.1 V.2.2)
  refine VC.ofs (fun | 99999999 => [(0, [0, 1, 2, 6, 7, 10, 11, 12])] | _ => []) [6] mixed Tryz.func46 rfl rfl rfl rfl (by decide +kernel) (by simp) ?_
  generalize hβ : Heap.set Heap.nil q (rkC tk b p) = β0
  have eq : β0 q = some (rkC tk b p) := hit_set hβ
  clear hβ
  try simp only [go_sem, reduceIte, Nat.reduceEqDiff, Nat.reduceAdd, Nat.reduceSub, Nat.reduceMul, Nat.reduceLT, Nat.reduceLeDiff, Nat.reducePow, Int.reduceToNat, Int.reduceLT, Int.reduceLE, Int.reduceEq, Int.reduceNe, Int.reduceAdd, Int.reduceSub, Int.reduceMul, Int.reduceNeg, ]
  refine cK_pp hi eq ?_
  generalize hβ_ : Heap.set _ q _ = β_
  have eq := hit_set hβ_
  clear hβ_
  by_cases k : i.2.2 = 0
  rotate_left
  · rw [rdO_pan k]
    rw [if_neg k] at hV
    subst hV
    try simp only [go_sem, reduceIte, Nat.reduceEqDiff, Nat.reduceAdd, Nat.reduceSub, Nat.reduceMul, Nat.reduceLT, Nat.reduceLeDiff, Nat.reducePow, Int.reduceToNat, Int.reduceLT, Int.reduceLE, Int.reduceEq, Int.reduceNe, Int.reduceAdd, Int.reduceSub, Int.reduceMul, Int.reduceNeg, ]
    exact r1Q_bad k eq
  rw [rdO_ret k]
  rw [if_pos k] at hV
  have hle := hle k
  try simp only [go_sem, reduceIte, Nat.reduceEqDiff, Nat.reduceAdd, Nat.reduceSub, Nat.reduceMul, Nat.reduceLT, Nat.reduceLeDiff, Nat.reducePow, Int.reduceToNat, Int.reduceLT, Int.reduceLE, Int.reduceEq, Int.reduceNe, Int.reduceAdd, Int.reduceSub, Int.reduceMul, Int.reduceNeg, ]
  refine vwq_loop (fun v => ∃ (j : Nat) (l : List Rw) (s : Int) (t : Tk), j ≤ i.1 ∧ l.length = j ∧ listF (rowF b) (i.1 - j) l s = V ∧ TW 1 t v.ω ∧ v.β q = some (rkC tk b s) ∧ v.σ 2 = .clo (.func 47) [.pb q 0] [] ∧ v.σ 7 = .sl t (l.map rwD) ∧ v.σ 10 = .int .i64 i.1 ∧ v.σ 11 = .int .i64 j) (fun v => i.1 - (ival (v.σ 11)).toNat) ⟨0, [], _, .full, by omega, rfl, hV, TW.full 1, eq, rfl, rfl, rfl, rfl⟩ ?_
  clear hV eq
  rintro σ β ω ⟨j, l, s, t, hj, hl, hV, hw, eq, q2, q7, q10, q11⟩
  dsimp only at hw eq q2 q7 q10 q11
  have hto := hw.ok
  have htg := hw.gone
  try simp only [go_sem, reduceIte, Nat.reduceEqDiff, Nat.reduceAdd, Nat.reduceSub, Nat.reduceMul, Nat.reduceLT, Nat.reduceLeDiff, Nat.reducePow, Int.reduceToNat, Int.reduceLT, Int.reduceLE, Int.reduceEq, Int.reduceNe, Int.reduceAdd, Int.reduceSub, Int.reduceMul, Int.reduceNeg, q2, q7, q10, q11]
  refine cd_dec (fun g => ?_) (fun g => ?_)
  · have wj := wrap_i64 (x := (j : Int) + 1) (by omega) (by omega)
    obtain ⟨n', hn'⟩ : ∃ n', i.1 - j = n' + 1 := ⟨i.1 - j - 1, by omega⟩
    rw [hn', listF] at hV
    try simp only [go_sem, reduceIte, Nat.reduceEqDiff, Nat.reduceAdd, Nat.reduceSub, Nat.reduceMul, Nat.reduceLT, Nat.reduceLeDiff, Nat.reducePow, Int.reduceToNat, Int.reduceLT, Int.reduceLE, Int.reduceEq, Int.reduceNe, Int.reduceAdd, Int.reduceSub, Int.reduceMul, Int.reduceNeg, q2, q7, q10, q11]
    have hc := prow_ok (G := G) tk b s hb
    unfold VRd at hc
    generalize rowF b s = c at hV hc
    unfold VPP at hc
    refine cK_frp (hc q) (Part.var eq) (fun r β1 ω1 β' ω' hΦ hP _ hω => ?_) (fun r β1 ω1 β' ω' hΦ hP => ?_)
    · obtain ⟨hr, rfl, rfl⟩ := hΦ
      by_cases ke : c.2.2 = 0
      rotate_left
      · rw [rdO_pan ke] at hr; cases hr
      rw [if_pos ke] at hV
      rw [rdO_ret ke] at hr
      cases hr
      have eq' : β' q = some (rkC tk b c.2.1) := hP.1 _ _ (hit_set rfl)
      have e9 : ω' = ω := by rw [hω]; simp [joinT]
      subst e9
      try simp only [go_sem, reduceIte, Nat.reduceEqDiff, Nat.reduceAdd, Nat.reduceSub, Nat.reduceMul, Nat.reduceLT, Nat.reduceLeDiff, Nat.reducePow, Int.reduceToNat, Int.reduceLT, Int.reduceLE, Int.reduceEq, Int.reduceNe, Int.reduceAdd, Int.reduceSub, Int.reduceMul, Int.reduceNeg, q2, q7, q10, q11, hto, htg, wj]
      refine ⟨⟨trivial, rfl, rfl⟩, ⟨rfl, rfl⟩, fun x hx => ?_, by simp only [List.length_map]; omega, fun t' _ => ⟨⟨j + 1, l ++ [c.1], c.2.1, .live t' 1, by omega, by simp [hl], ?_, TW.live 1 t', eq', ?_⟩, by omega⟩⟩
      · obtain ⟨y, _, rfl⟩ := List.mem_map.1 hx
        rfl
      · rw [show i.1 - (j + 1) = n' by omega]; exact hV
      · exact ⟨by rw [List.map_append]; rfl, rfl⟩
    · obtain ⟨hr, rfl, rfl⟩ := hΦ
      by_cases ke : c.2.2 = 0
      · rw [rdO_ret ke] at hr; cases hr
      rw [if_neg ke] at hV
      rw [rdO_pan ke] at hr
      cases hr
      subst hV
      try simp only [go_sem, reduceIte, Nat.reduceEqDiff, Nat.reduceAdd, Nat.reduceSub, Nat.reduceMul, Nat.reduceLT, Nat.reduceLeDiff, Nat.reducePow, Int.reduceToNat, Int.reduceLT, Int.reduceLE, Int.reduceEq, Int.reduceNe, Int.reduceAdd, Int.reduceSub, Int.reduceMul, Int.reduceNeg, ]
      exact r1Q_bad ke (hP.1 _ _ (hit_set rfl))
  · try simp only [go_sem, reduceIte, Nat.reduceEqDiff, Nat.reduceAdd, Nat.reduceSub, Nat.reduceMul, Nat.reduceLT, Nat.reduceLeDiff, Nat.reducePow, Int.reduceToNat, Int.reduceLT, Int.reduceLE, Int.reduceEq, Int.reduceNe, Int.reduceAdd, Int.reduceSub, Int.reduceMul, Int.reduceNeg, q2, q7, q10, q11]
    obtain rfl : j = i.1 := by omega
    rw [Nat.sub_self, listF] at hV
    subst hV
    exact r1Q_ok rfl (by simp [D.er, D.er1]) eq
end Go.Proofs.YtpblgfgcoamgmaaGreatS
namespace Go.Proofs.YtpblgfgcoamgmaaGreatS
open Go Go.Proofs.YtpblgfgcoamgmaaGreatV

variable {G : Heap}
attribute [local irreducible] VN VC VX VQ VY VW VTA VT0 VPP

abbrev Gu := Pr × Int × Int × Int
def guD (g : Gu) : D := .agg (g.1.cells ++ [.int .i64 g.2.1, .int .i64 g.2.2.1, .int .i64 g.2.2.2])
def Gu.nul : Gu := (Pr.nul, 0, 0, 0)
def gdF (b : List Nat) (p : Int) : Gu × Int × Int :=
  let r := rP b p
  if r.2.2 ≠ 0 then (Gu.nul, r.2.1, r.2.2) else
  let c := idF b 0 r.2.1
  if c.2.2 ≠ 0 then (Gu.nul, c.2.1, c.2.2) else
  let x := rS b c.2.1
  if x.2.2 ≠ 0 then (Gu.nul, x.2.1, x.2.2) else
  let y := rS b x.2.1
  if y.2.2 ≠ 0 then (Gu.nul, y.2.1, y.2.2) else ((r.1, (c.1 : Int), x.1, y.1), y.2.1, 0)
theorem pguard_ok (tk : Tk) (b : List Nat) (p : Int) (hb : Byt b) (hbl : b.length ≤ 1099511627776) : VRd P G 49 [] tk b p (guD (gdF b p).1) (gdF b p).2.1 (gdF b p).2.2 := by
  have hr := preadP_ok (G := G) tk b p hb hbl
  unfold VRd at hr ⊢
  unfold gdF
  generalize rP b p = r at hr ⊢
  unfold VPP
  intro q
  show VC _ _ _ _ _ _ (r1Q q tk b (guD _) _ _)
  refine VC.ofc (fun | 99999999 => [(0, [0, 2, 3])] | _ => []) [.cell 2 58] mixed Tryz.func49 rfl rfl rfl rfl (by decide +kernel) (by simp) ?_
  generalize hβ : Heap.set Heap.nil q (rkC tk b p) = β0
  have eq : β0 q = some (rkC tk b p) := hit_set hβ
  clear hβ
  have N := trivial
  try simp only [go_sem, reduceIte, Nat.reduceEqDiff, Nat.reduceAdd, Nat.reduceSub, Nat.reduceMul, Nat.reduceLT, Nat.reduceLeDiff, Nat.reducePow, Int.reduceToNat, Int.reduceLT, Int.reduceLE, Int.reduceEq, Int.reduceNe, Int.reduceAdd, Int.reduceSub, Int.reduceMul, Int.reduceNeg, ]
  refine new_any fun b2 hb2 => ?_
  have N := And.intro N (box_ne hb2 eq)
  generalize hβ_ : Heap.set _ b2 _ = β_
  have e2 := hit_set hβ_
  have eq := keep_new hβ_ hb2 eq
  clear hβ_ hb2
  try simp only [go_sem, reduceIte, Nat.reduceEqDiff, Nat.reduceAdd, Nat.reduceSub, Nat.reduceMul, Nat.reduceLT, Nat.reduceLeDiff, Nat.reducePow, Int.reduceToNat, Int.reduceLT, Int.reduceLE, Int.reduceEq, Int.reduceNe, Int.reduceAdd, Int.reduceSub, Int.reduceMul, Int.reduceNeg, N, eq, e2]
  refine new_any fun b3 hb3 => ?_
  have N := And.intro N (box_ne hb3 eq)
  have N := And.intro N (box_ne hb3 e2)
  generalize hβ_ : Heap.set _ b3 _ = β_
  have e3 := hit_set hβ_
  have eq := keep_new hβ_ hb3 eq
  have e2 := keep_new hβ_ hb3 e2
  clear hβ_ hb3
  try simp only [go_sem, reduceIte, Nat.reduceEqDiff, Nat.reduceAdd, Nat.reduceSub, Nat.reduceMul, Nat.reduceLT, Nat.reduceLeDiff, Nat.reducePow, Int.reduceToNat, Int.reduceLT, Int.reduceLE, Int.reduceEq, Int.reduceNe, Int.reduceAdd, Int.reduceSub, Int.reduceMul, Int.reduceNeg, N, eq, e2, e3]
  refine cK_pp hr eq ?_
  generalize hβ_ : Heap.set _ q _ = β_
  have e2 := keep_ne hβ_ (by simp [N]) e2
  have e3 := keep_ne hβ_ (by simp [N]) e3
  have eq := hit_set hβ_
  clear hβ_
  by_cases k : r.2.2 = 0
  rotate_left
  · rw [rdO_pan k]
    simp only [ne_eq, k, not_false_eq_true, if_true]
    try simp only [go_sem, reduceIte, Nat.reduceEqDiff, Nat.reduceAdd, Nat.reduceSub, Nat.reduceMul, Nat.reduceLT, Nat.reduceLeDiff, Nat.reducePow, Int.reduceToNat, Int.reduceLT, Int.reduceLE, Int.reduceEq, Int.reduceNe, Int.reduceAdd, Int.reduceSub, Int.reduceMul, Int.reduceNeg, ]
    exact r1Q_bad k eq
  rw [rdO_ret k]
  simp only [ne_eq, k, not_true_eq_false, if_false]
  have hc := pid_ok (G := G) tk b r.2.1 hb 0
  unfold VRd at hc
  generalize idF b 0 r.2.1 = c at hc ⊢
  obtain ⟨r0, r1, r2⟩ := r
  dsimp only at k eq hc ⊢
  simp only [Pr.cells]
  try simp only [go_sem, reduceIte, Nat.reduceEqDiff, Nat.reduceAdd, Nat.reduceSub, Nat.reduceMul, Nat.reduceLT, Nat.reduceLeDiff, Nat.reducePow, Int.reduceToNat, Int.reduceLT, Int.reduceLE, Int.reduceEq, Int.reduceNe, Int.reduceAdd, Int.reduceSub, Int.reduceMul, Int.reduceNeg, N, eq, e2, e3]
  generalize hβ_ : Heap.set _ b3 _ = β_
  have eq := keep_ne hβ_ (by simp [N]) eq
  have e2 := keep_ne hβ_ (by simp [N]) e2
  have e3 := hit_set hβ_
  clear hβ_
  refine cK_pp hc eq ?_
  generalize hβ_ : Heap.set _ q _ = β_
  have e2 := keep_ne hβ_ (by simp [N]) e2
  have e3 := keep_ne hβ_ (by simp [N]) e3
  have eq := hit_set hβ_
  clear hβ_
  by_cases k : c.2.2 = 0
  rotate_left
  · rw [rdO_pan k]
    simp only [k, not_false_eq_true, if_true]
    try simp only [go_sem, reduceIte, Nat.reduceEqDiff, Nat.reduceAdd, Nat.reduceSub, Nat.reduceMul, Nat.reduceLT, Nat.reduceLeDiff, Nat.reducePow, Int.reduceToNat, Int.reduceLT, Int.reduceLE, Int.reduceEq, Int.reduceNe, Int.reduceAdd, Int.reduceSub, Int.reduceMul, Int.reduceNeg, ]
    exact r1Q_bad k eq
  rw [rdO_ret k]
  simp only [k, not_true_eq_false, if_false]
  have hx := preadS_ok (G := G) tk b c.2.1 hb
  unfold VRd at hx
  generalize rS b c.2.1 = x at hx ⊢
  try simp only [go_sem, reduceIte, Nat.reduceEqDiff, Nat.reduceAdd, Nat.reduceSub, Nat.reduceMul, Nat.reduceLT, Nat.reduceLeDiff, Nat.reducePow, Int.reduceToNat, Int.reduceLT, Int.reduceLE, Int.reduceEq, Int.reduceNe, Int.reduceAdd, Int.reduceSub, Int.reduceMul, Int.reduceNeg, N, eq, e2, e3]
  generalize hβ_ : Heap.set _ b3 _ = β_
  have eq := keep_ne hβ_ (by simp [N]) eq
  have e2 := keep_ne hβ_ (by simp [N]) e2
  have e3 := hit_set hβ_
  clear hβ_
  refine cK_pp hx eq ?_
  generalize hβ_ : Heap.set _ q _ = β_
  have e2 := keep_ne hβ_ (by simp [N]) e2
  have e3 := keep_ne hβ_ (by simp [N]) e3
  have eq := hit_set hβ_
  clear hβ_
  by_cases k : x.2.2 = 0
  rotate_left
  · rw [rdO_pan k]
    simp only [k, not_false_eq_true, if_true]
    try simp only [go_sem, reduceIte, Nat.reduceEqDiff, Nat.reduceAdd, Nat.reduceSub, Nat.reduceMul, Nat.reduceLT, Nat.reduceLeDiff, Nat.reducePow, Int.reduceToNat, Int.reduceLT, Int.reduceLE, Int.reduceEq, Int.reduceNe, Int.reduceAdd, Int.reduceSub, Int.reduceMul, Int.reduceNeg, ]
    exact r1Q_bad k eq
  rw [rdO_ret k]
  simp only [k, not_true_eq_false, if_false]
  have hy := preadS_ok (G := G) tk b x.2.1 hb
  unfold VRd at hy
  generalize rS b x.2.1 = y at hy ⊢
  try simp only [go_sem, reduceIte, Nat.reduceEqDiff, Nat.reduceAdd, Nat.reduceSub, Nat.reduceMul, Nat.reduceLT, Nat.reduceLeDiff, Nat.reducePow, Int.reduceToNat, Int.reduceLT, Int.reduceLE, Int.reduceEq, Int.reduceNe, Int.reduceAdd, Int.reduceSub, Int.reduceMul, Int.reduceNeg, N, eq, e2, e3]
  generalize hβ_ : Heap.set _ b3 _ = β_
  have eq := keep_ne hβ_ (by simp [N]) eq
  have e2 := keep_ne hβ_ (by simp [N]) e2
  have e3 := hit_set hβ_
  clear hβ_
  refine cK_pp hy eq ?_
  generalize hβ_ : Heap.set _ q _ = β_
  have e2 := keep_ne hβ_ (by simp [N]) e2
  have e3 := keep_ne hβ_ (by simp [N]) e3
  have eq := hit_set hβ_
  clear hβ_
  by_cases k : y.2.2 = 0
  rotate_left
  · rw [rdO_pan k]
    simp only [k, not_false_eq_true, if_true]
    try simp only [go_sem, reduceIte, Nat.reduceEqDiff, Nat.reduceAdd, Nat.reduceSub, Nat.reduceMul, Nat.reduceLT, Nat.reduceLeDiff, Nat.reducePow, Int.reduceToNat, Int.reduceLT, Int.reduceLE, Int.reduceEq, Int.reduceNe, Int.reduceAdd, Int.reduceSub, Int.reduceMul, Int.reduceNeg, ]
    exact r1Q_bad k eq
  rw [rdO_ret k]
  simp only [k, not_true_eq_false, if_false]
  try simp only [go_sem, reduceIte, Nat.reduceEqDiff, Nat.reduceAdd, Nat.reduceSub, Nat.reduceMul, Nat.reduceLT, Nat.reduceLeDiff, Nat.reducePow, Int.reduceToNat, Int.reduceLT, Int.reduceLE, Int.reduceEq, Int.reduceNe, Int.reduceAdd, Int.reduceSub, Int.reduceMul, Int.reduceNeg, N, eq, e2, e3]
  generalize hβ_ : Heap.set _ b3 _ = β_
  have eq := keep_ne hβ_ (by simp [N]) eq
  have e2 := keep_ne hβ_ (by simp [N]) e2
  have e3 := hit_set hβ_
  clear hβ_
  try simp only [go_sem, reduceIte, Nat.reduceEqDiff, Nat.reduceAdd, Nat.reduceSub, Nat.reduceMul, Nat.reduceLT, Nat.reduceLeDiff, Nat.reducePow, Int.reduceToNat, Int.reduceLT, Int.reduceLE, Int.reduceEq, Int.reduceNe, Int.reduceAdd, Int.reduceSub, Int.reduceMul, Int.reduceNeg, N, eq, e2, e3]
  generalize hβ_ : Heap.set _ b2 _ = β_
  have eq := keep_ne hβ_ (by simp [N]) eq
  have e2 := hit_set hβ_
  clear hβ_
  exact r1Q_ok rfl (by simp [D.er, guD, Pr.cells, D.er1]) eq
def gdsF (b : List Nat) (p : Int) : List Gu × Int × Int :=
  if (numF b 16 p).2.2 = 0 then listF (gdF b) (numF b 16 p).1 [] (numF b 16 p).2.1 else ([], (numF b 16 p).2.1, (numF b 16 p).2.2)
theorem pguards_ok (tk : Tk) (b : List Nat) (p : Int) (hb : Byt b) (hbl : b.length ≤ 1099511627776) : VPP P G 48 (fun q => [.pb q 0, .int .i64 16, .clo (.func 49) [.pb q 0] []]) (rkC tk b p) (rdO (.sl .none ((gdsF b p).1.map guD)) (gdsF b p).2.2) (rkC tk b (gdsF b p).2.1) := by
  have hi := pnumber_ok (G := G) tk b p hb 16 (by omega)
  unfold VRd at hi
  have hle := numF_le (b := b) (lim := 16) (p := p)
  obtain ⟨V, hV⟩ : ∃ V, gdsF b p = V := ⟨_, rfl⟩
  rw [hV]
  unfold gdsF at hV
  generalize numF b 16 p = i at hi hle hV
  unfold VPP
  intro q
  show VC _ _ _ _ _ _ (r1Q q tk b (.sl .none (V.1.map guD)) V.2.1 V.2.2)
  refine VC.ofs (fun | 99999999 => [(0, [0, 1, 2, 6, 7, 10, 11, 12])] | _ => []) [6] mixed Tryz.func48 rfl rfl rfl rfl (by decide +kernel) (by simp) ?_
  generalize hβ : Heap.set Heap.nil q (rkC tk b p) = β0
  have eq : β0 q = some (rkC tk b p) := hit_set hβ
  clear hβ
  try simp only [go_sem, reduceIte, Nat.reduceEqDiff, Nat.reduceAdd, Nat.reduceSub, Nat.reduceMul, Nat.reduceLT, Nat.reduceLeDiff, Nat.reducePow, Int.reduceToNat, Int.reduceLT, Int.reduceLE, Int.reduceEq, Int.reduceNe, Int.reduceAdd, Int.reduceSub, Int.reduceMul, Int.reduceNeg, ]
  refine cK_pp hi eq ?_
  generalize hβ_ : Heap.set _ q _ = β_
  have eq := hit_set hβ_
  clear hβ_
  by_cases k : i.2.2 = 0
  rotate_left
  · rw [rdO_pan k]
    rw [if_neg k] at hV
    subst hV
    try simp only [go_sem, reduceIte, Nat.reduceEqDiff, Nat.reduceAdd, Nat.reduceSub, Nat.reduceMul, Nat.reduceLT, Nat.reduceLeDiff, Nat.reducePow, Int.reduceToNat, Int.reduceLT, Int.reduceLE, Int.reduceEq, Int.reduceNe, Int.reduceAdd, Int.reduceSub, Int.reduceMul, Int.reduceNeg, ]
    exact r1Q_bad k eq
  rw [rdO_ret k]
  rw [if_pos k] at hV
  have hle := hle k
  try simp only [go_sem, reduceIte, Nat.reduceEqDiff, Nat.reduceAdd, Nat.reduceSub, Nat.reduceMul, Nat.reduceLT, Nat.reduceLeDiff, Nat.reducePow, Int.reduceToNat, Int.reduceLT, Int.reduceLE, Int.reduceEq, Int.reduceNe, Int.reduceAdd, Int.reduceSub, Int.reduceMul, Int.reduceNeg, ]
  refine vwq_loop (fun v => ∃ (j : Nat) (l : List Gu) (s : Int) (t : Tk), j ≤ i.1 ∧ l.length = j ∧ listF (gdF b) (i.1 - j) l s = V ∧ TW 10 t v.ω ∧ v.β q = some (rkC tk b s) ∧ v.σ 2 = .clo (.func 49) [.pb q 0] [] ∧ v.σ 7 = .sl t (l.map guD) ∧ v.σ 10 = .int .i64 i.1 ∧ v.σ 11 = .int .i64 j) (fun v => i.1 - (ival (v.σ 11)).toNat) ⟨0, [], _, .full, by omega, rfl, hV, TW.full 10, eq, rfl, rfl, rfl, rfl⟩ ?_
  clear hV eq
  rintro σ β ω ⟨j, l, s, t, hj, hl, hV, hw, eq, q2, q7, q10, q11⟩
  dsimp only at hw eq q2 q7 q10 q11
  have hto := hw.ok
  have htg := hw.gone
  try simp only [go_sem, reduceIte, Nat.reduceEqDiff, Nat.reduceAdd, Nat.reduceSub, Nat.reduceMul, Nat.reduceLT, Nat.reduceLeDiff, Nat.reducePow, Int.reduceToNat, Int.reduceLT, Int.reduceLE, Int.reduceEq, Int.reduceNe, Int.reduceAdd, Int.reduceSub, Int.reduceMul, Int.reduceNeg, q2, q7, q10, q11]
  refine cd_dec (fun g => ?_) (fun g => ?_)
  · have wj := wrap_i64 (x := (j : Int) + 1) (by omega) (by omega)
    obtain ⟨n', hn'⟩ : ∃ n', i.1 - j = n' + 1 := ⟨i.1 - j - 1, by omega⟩
    rw [hn', listF] at hV
    try simp only [go_sem, reduceIte, Nat.reduceEqDiff, Nat.reduceAdd, Nat.reduceSub, Nat.reduceMul, Nat.reduceLT, Nat.reduceLeDiff, Nat.reducePow, Int.reduceToNat, Int.reduceLT, Int.reduceLE, Int.reduceEq, Int.reduceNe, Int.reduceAdd, Int.reduceSub, Int.reduceMul, Int.reduceNeg, q2, q7, q10, q11]
    have hc := pguard_ok (G := G) tk b s hb hbl
    unfold VRd at hc
    generalize gdF b s = c at hV hc
    unfold VPP at hc
    refine cK_frp (hc q) (Part.var eq) (fun r β1 ω1 β' ω' hΦ hP _ hω => ?_) (fun r β1 ω1 β' ω' hΦ hP => ?_)
    · obtain ⟨hr, rfl, rfl⟩ := hΦ
      by_cases ke : c.2.2 = 0
      rotate_left
      · rw [rdO_pan ke] at hr; cases hr
      rw [if_pos ke] at hV
      rw [rdO_ret ke] at hr
      cases hr
      have eq' : β' q = some (rkC tk b c.2.1) := hP.1 _ _ (hit_set rfl)
      have e9 : ω' = ω := by rw [hω]; simp [joinT]
      subst e9
      try simp only [go_sem, reduceIte, Nat.reduceEqDiff, Nat.reduceAdd, Nat.reduceSub, Nat.reduceMul, Nat.reduceLT, Nat.reduceLeDiff, Nat.reducePow, Int.reduceToNat, Int.reduceLT, Int.reduceLE, Int.reduceEq, Int.reduceNe, Int.reduceAdd, Int.reduceSub, Int.reduceMul, Int.reduceNeg, q2, q7, q10, q11, hto, htg, wj]
      refine ⟨⟨trivial, rfl, rfl⟩, ⟨rfl, rfl⟩, fun x hx => ?_, by simp only [List.length_map]; omega, fun t' _ => ⟨⟨j + 1, l ++ [c.1], c.2.1, .live t' 10, by omega, by simp [hl], ?_, TW.live 10 t', eq', ?_⟩, by omega⟩⟩
      · obtain ⟨y, _, rfl⟩ := List.mem_map.1 hx
        rfl
      · rw [show i.1 - (j + 1) = n' by omega]; exact hV
      · exact ⟨by rw [List.map_append]; rfl, rfl⟩
    · obtain ⟨hr, rfl, rfl⟩ := hΦ
      by_cases ke : c.2.2 = 0
      · rw [rdO_ret ke] at hr; cases hr
      rw [if_neg ke] at hV
      rw [rdO_pan ke] at hr
      cases hr
      subst hV
      try simp only [go_sem, reduceIte, Nat.reduceEqDiff, Nat.reduceAdd, Nat.reduceSub, Nat.reduceMul, Nat.reduceLT, Nat.reduceLeDiff, Nat.reducePow, Int.reduceToNat, Int.reduceLT, Int.reduceLE, Int.reduceEq, Int.reduceNe, Int.reduceAdd, Int.reduceSub, Int.reduceMul, Int.reduceNeg, ]
      exact r1Q_bad ke (hP.1 _ _ (hit_set rfl))
  · try simp only [go_sem, reduceIte, Nat.reduceEqDiff, Nat.reduceAdd, Nat.reduceSub, Nat.reduceMul, Nat.reduceLT, Nat.reduceLeDiff, Nat.reducePow, Int.reduceToNat, Int.reduceLT, Int.reduceLE, Int.reduceEq, Int.reduceNe, Int.reduceAdd, Int.reduceSub, Int.reduceMul, Int.reduceNeg, q2, q7, q10, q11]
    obtain rfl : j = i.1 := by omega
    rw [Nat.sub_self, listF] at hV
    subst hV
    exact r1Q_ok rfl (by simp [D.er, D.er1]) eq
end Go.Proofs.YtpblgfgcoamgmaaGreatS
namespace Go.Proofs.YtpblgfgcoamgmaaGreatS
open Go Go.Proofs.YtpblgfgcoamgmaaGreatV

variable {G : Heap}
attribute [local irreducible] VN VC VX VQ VY VW VTA VT0 VPP

abbrev Pg := Pr × Pr × List Rw × List Gu
def Pg.cells (g : Pg) : List D := g.1.cells ++ g.2.1.cells ++ [.sl .none (g.2.2.1.map rwD), .sl .none (g.2.2.2.map guD)]
def Pg.nul : Pg := (Pr.nul, Pr.nul, [], [])
def pgDecF (b : List Nat) : Pg × Int :=
  let r := rP b 0
  if r.2.2 ≠ 0 then (Pg.nul, r.2.2) else
  let m := rP b r.2.1
  if m.2.2 ≠ 0 then (Pg.nul, m.2.2) else
  let i := rowsF b m.2.1
  if i.2.2 ≠ 0 then (Pg.nul, i.2.2) else
  let g := gdsF b i.2.1
  if g.2.2 ≠ 0 then (Pg.nul, g.2.2) else
  if g.2.1 ≠ b.length then (Pg.nul, 5) else ((r.1, m.1, i.1, g.1), 0)
theorem und_any {P : Program} {t : TypeId} (h : (match P.underlying t with | some (.interface _) => true | _ => false) = true) : ∃ ms, P.underlying t = some (.interface ms) := by
  split at h
  · rename_i ms e; exact ⟨ms, e⟩
  · cases h
theorem pgDecode_ok (tk : Tk) (b : List Nat) (hb : Byt b) (hbl : b.length ≤ 1099511627776) : VN P G 18 [.sl tk (bs b)] (.tup [.agg (pgDecF b).1.cells, .int .i64 (pgDecF b).2]) := by
  have hr := preadP_ok (G := G) tk b 0 hb hbl
  unfold VRd at hr
  unfold pgDecF
  generalize rP b 0 = r at hr ⊢
  unfold VN
  refine VC.defers (fun | 99999999 => [(0, [0, 2, 3, 4, 31])] | _ => []) (fun | 2 => [(0, []), (1, []), (2, []), (3, []), (4, [])] | 99999999 => [(0, [0, 1, 2, 5])] | _ => []) [.cell 2 44, .cell 3 45] mixed Tryz.func18 rfl rfl rfl Tryz.func43 rfl rfl rfl (by decide +kernel) (by decide +kernel) (by simp) ?_
  try simp only [go_sem, reduceIte, Nat.reduceEqDiff, Nat.reduceAdd, Nat.reduceSub, Nat.reduceMul, Nat.reduceLT, Nat.reduceLeDiff, Nat.reducePow, Int.reduceToNat, Int.reduceLT, Int.reduceLE, Int.reduceEq, Int.reduceNe, Int.reduceAdd, Int.reduceSub, Int.reduceMul, Int.reduceNeg, ]
  intro b2
  generalize hβ : Heap.set Heap.nil b2 _ = β0
  have e2 := hit_set hβ
  clear hβ
  have N := trivial
  refine new_any fun b3 hb3 => ?_
  have N := And.intro N (box_ne hb3 e2)
  generalize hβ_ : Heap.set _ b3 _ = β_
  have e3 := hit_set hβ_
  have e2 := keep_new hβ_ hb3 e2
  clear hβ_ hb3
  try simp only [go_sem, reduceIte, Nat.reduceEqDiff, Nat.reduceAdd, Nat.reduceSub, Nat.reduceMul, Nat.reduceLT, Nat.reduceLeDiff, Nat.reducePow, Int.reduceToNat, Int.reduceLT, Int.reduceLE, Int.reduceEq, Int.reduceNe, Int.reduceAdd, Int.reduceSub, Int.reduceMul, Int.reduceNeg, N, e2, e3]
  refine new_any fun b4 hb4 => ?_
  have N := And.intro N (box_ne hb4 e2)
  have N := And.intro N (box_ne hb4 e3)
  generalize hβ_ : Heap.set _ b4 _ = β_
  have e4 := hit_set hβ_
  have e2 := keep_new hβ_ hb4 e2
  have e3 := keep_new hβ_ hb4 e3
  clear hβ_ hb4
  try simp only [go_sem, reduceIte, Nat.reduceEqDiff, Nat.reduceAdd, Nat.reduceSub, Nat.reduceMul, Nat.reduceLT, Nat.reduceLeDiff, Nat.reducePow, Int.reduceToNat, Int.reduceLT, Int.reduceLE, Int.reduceEq, Int.reduceNe, Int.reduceAdd, Int.reduceSub, Int.reduceMul, Int.reduceNeg, N, e2, e3, e4]
  refine cK_pp hr e4 ?_
  generalize hβ_ : Heap.set _ b4 _ = β_
  have e2 := keep_ne hβ_ (by simp [N]) e2
  have e3 := keep_ne hβ_ (by simp [N]) e3
  have e4 := hit_set hβ_
  clear hβ_
  by_cases k : r.2.2 = 0
  rotate_left
  · rw [rdO_pan k]
    simp only [ne_eq, k, not_false_eq_true, if_true]
    try simp only [go_sem, reduceIte, Nat.reduceEqDiff, Nat.reduceAdd, Nat.reduceSub, Nat.reduceMul, Nat.reduceLT, Nat.reduceLeDiff, Nat.reducePow, Int.reduceToNat, Int.reduceLT, Int.reduceLE, Int.reduceEq, Int.reduceNe, Int.reduceAdd, Int.reduceSub, Int.reduceMul, Int.reduceNeg, errD, N, e2, e3]
    exact ⟨und_any (by decide +kernel), finK_drop ⟨rfl, rfl, rfl⟩⟩
  rw [rdO_ret k]
  simp only [ne_eq, k, not_true_eq_false, if_false]
  have hm := preadP_ok (G := G) tk b r.2.1 hb hbl
  unfold VRd at hm
  obtain ⟨r0, r1, r2⟩ := r
  dsimp only at k e4 hm ⊢
  generalize rP b r1 = m at hm ⊢
  simp only [Pr.cells]
  try simp only [go_sem, reduceIte, Nat.reduceEqDiff, Nat.reduceAdd, Nat.reduceSub, Nat.reduceMul, Nat.reduceLT, Nat.reduceLeDiff, Nat.reducePow, Int.reduceToNat, Int.reduceLT, Int.reduceLE, Int.reduceEq, Int.reduceNe, Int.reduceAdd, Int.reduceSub, Int.reduceMul, Int.reduceNeg, N, e2, e3, e4]
  generalize hβ_ : Heap.set _ b2 _ = β_
  have e3 := keep_ne hβ_ (by simp [N]) e3
  have e4 := keep_ne hβ_ (by simp [N]) e4
  have e2 := hit_set hβ_
  clear hβ_
  refine cK_pp hm e4 ?_
  generalize hβ_ : Heap.set _ b4 _ = β_
  have e2 := keep_ne hβ_ (by simp [N]) e2
  have e3 := keep_ne hβ_ (by simp [N]) e3
  have e4 := hit_set hβ_
  clear hβ_
  by_cases k : m.2.2 = 0
  rotate_left
  · rw [rdO_pan k]
    simp only [k, not_false_eq_true, if_true]
    try simp only [go_sem, reduceIte, Nat.reduceEqDiff, Nat.reduceAdd, Nat.reduceSub, Nat.reduceMul, Nat.reduceLT, Nat.reduceLeDiff, Nat.reducePow, Int.reduceToNat, Int.reduceLT, Int.reduceLE, Int.reduceEq, Int.reduceNe, Int.reduceAdd, Int.reduceSub, Int.reduceMul, Int.reduceNeg, errD, N, e2, e3]
    exact ⟨und_any (by decide +kernel), finK_drop ⟨rfl, rfl, rfl⟩⟩
  rw [rdO_ret k]
  simp only [k, not_true_eq_false, if_false]
  have hi := prows_ok (G := G) tk b m.2.1 hb
  obtain ⟨m0, m1, m2⟩ := m
  dsimp only at k e4 hi ⊢
  generalize rowsF b m1 = i at hi ⊢
  simp only [Pr.cells]
  try simp only [go_sem, reduceIte, Nat.reduceEqDiff, Nat.reduceAdd, Nat.reduceSub, Nat.reduceMul, Nat.reduceLT, Nat.reduceLeDiff, Nat.reducePow, Int.reduceToNat, Int.reduceLT, Int.reduceLE, Int.reduceEq, Int.reduceNe, Int.reduceAdd, Int.reduceSub, Int.reduceMul, Int.reduceNeg, N, e2, e3, e4]
  generalize hβ_ : Heap.set _ b2 _ = β_
  have e3 := keep_ne hβ_ (by simp [N]) e3
  have e4 := keep_ne hβ_ (by simp [N]) e4
  have e2 := hit_set hβ_
  clear hβ_
  try simp only [go_sem, reduceIte, Nat.reduceEqDiff, Nat.reduceAdd, Nat.reduceSub, Nat.reduceMul, Nat.reduceLT, Nat.reduceLeDiff, Nat.reducePow, Int.reduceToNat, Int.reduceLT, Int.reduceLE, Int.reduceEq, Int.reduceNe, Int.reduceAdd, Int.reduceSub, Int.reduceMul, Int.reduceNeg, N, e2, e3, e4]
  refine cK_pp hi e4 ?_
  generalize hβ_ : Heap.set _ b4 _ = β_
  have e2 := keep_ne hβ_ (by simp [N]) e2
  have e3 := keep_ne hβ_ (by simp [N]) e3
  have e4 := hit_set hβ_
  clear hβ_
  by_cases k : i.2.2 = 0
  rotate_left
  · rw [rdO_pan k]
    simp only [k, not_false_eq_true, if_true]
    try simp only [go_sem, reduceIte, Nat.reduceEqDiff, Nat.reduceAdd, Nat.reduceSub, Nat.reduceMul, Nat.reduceLT, Nat.reduceLeDiff, Nat.reducePow, Int.reduceToNat, Int.reduceLT, Int.reduceLE, Int.reduceEq, Int.reduceNe, Int.reduceAdd, Int.reduceSub, Int.reduceMul, Int.reduceNeg, errD, N, e2, e3]
    exact ⟨und_any (by decide +kernel), finK_drop ⟨rfl, rfl, rfl⟩⟩
  rw [rdO_ret k]
  simp only [k, not_true_eq_false, if_false]
  have hg := pguards_ok (G := G) tk b i.2.1 hb hbl
  generalize gdsF b i.2.1 = g at hg ⊢
  try simp only [go_sem, reduceIte, Nat.reduceEqDiff, Nat.reduceAdd, Nat.reduceSub, Nat.reduceMul, Nat.reduceLT, Nat.reduceLeDiff, Nat.reducePow, Int.reduceToNat, Int.reduceLT, Int.reduceLE, Int.reduceEq, Int.reduceNe, Int.reduceAdd, Int.reduceSub, Int.reduceMul, Int.reduceNeg, N, e2, e3, e4]
  generalize hβ_ : Heap.set _ b2 _ = β_
  have e3 := keep_ne hβ_ (by simp [N]) e3
  have e4 := keep_ne hβ_ (by simp [N]) e4
  have e2 := hit_set hβ_
  clear hβ_
  try simp only [go_sem, reduceIte, Nat.reduceEqDiff, Nat.reduceAdd, Nat.reduceSub, Nat.reduceMul, Nat.reduceLT, Nat.reduceLeDiff, Nat.reducePow, Int.reduceToNat, Int.reduceLT, Int.reduceLE, Int.reduceEq, Int.reduceNe, Int.reduceAdd, Int.reduceSub, Int.reduceMul, Int.reduceNeg, N, e2, e3, e4]
  refine cK_pp hg e4 ?_
  generalize hβ_ : Heap.set _ b4 _ = β_
  have e2 := keep_ne hβ_ (by simp [N]) e2
  have e3 := keep_ne hβ_ (by simp [N]) e3
  have e4 := hit_set hβ_
  clear hβ_
  by_cases k : g.2.2 = 0
  rotate_left
  · rw [rdO_pan k]
    simp only [k, not_false_eq_true, if_true]
    try simp only [go_sem, reduceIte, Nat.reduceEqDiff, Nat.reduceAdd, Nat.reduceSub, Nat.reduceMul, Nat.reduceLT, Nat.reduceLeDiff, Nat.reducePow, Int.reduceToNat, Int.reduceLT, Int.reduceLE, Int.reduceEq, Int.reduceNe, Int.reduceAdd, Int.reduceSub, Int.reduceMul, Int.reduceNeg, errD, N, e2, e3]
    exact ⟨und_any (by decide +kernel), finK_drop ⟨rfl, rfl, rfl⟩⟩
  rw [rdO_ret k]
  simp only [k, not_true_eq_false, if_false]
  try simp only [go_sem, reduceIte, Nat.reduceEqDiff, Nat.reduceAdd, Nat.reduceSub, Nat.reduceMul, Nat.reduceLT, Nat.reduceLeDiff, Nat.reducePow, Int.reduceToNat, Int.reduceLT, Int.reduceLE, Int.reduceEq, Int.reduceNe, Int.reduceAdd, Int.reduceSub, Int.reduceMul, Int.reduceNeg, N, e2, e3, e4]
  generalize hβ_ : Heap.set _ b2 _ = β_
  have e3 := keep_ne hβ_ (by simp [N]) e3
  have e4 := keep_ne hβ_ (by simp [N]) e4
  have e2 := hit_set hβ_
  clear hβ_
  try simp only [go_sem, reduceIte, Nat.reduceEqDiff, Nat.reduceAdd, Nat.reduceSub, Nat.reduceMul, Nat.reduceLT, Nat.reduceLeDiff, Nat.reducePow, Int.reduceToNat, Int.reduceLT, Int.reduceLE, Int.reduceEq, Int.reduceNe, Int.reduceAdd, Int.reduceSub, Int.reduceMul, Int.reduceNeg, N, e2, e3, e4, rkC, bs_length]
  refine cd_dec (fun h => ?_) (fun h => ?_)
  · have h' : ¬ g.2.1 = (b.length : Int) := h
    simp only [h', not_false_eq_true, if_true]
    try simp only [go_sem, reduceIte, Nat.reduceEqDiff, Nat.reduceAdd, Nat.reduceSub, Nat.reduceMul, Nat.reduceLT, Nat.reduceLeDiff, Nat.reducePow, Int.reduceToNat, Int.reduceLT, Int.reduceLE, Int.reduceEq, Int.reduceNe, Int.reduceAdd, Int.reduceSub, Int.reduceMul, Int.reduceNeg, ]
    refine cK_np (pfail_ok 5) ?_
    try simp only [go_sem, reduceIte, Nat.reduceEqDiff, Nat.reduceAdd, Nat.reduceSub, Nat.reduceMul, Nat.reduceLT, Nat.reduceLeDiff, Nat.reducePow, Int.reduceToNat, Int.reduceLT, Int.reduceLE, Int.reduceEq, Int.reduceNe, Int.reduceAdd, Int.reduceSub, Int.reduceMul, Int.reduceNeg, errD, N, e2, e3]
    exact ⟨und_any (by decide +kernel), finK_drop ⟨rfl, rfl, rfl⟩⟩
  · have h' : g.2.1 = (b.length : Int) := Decidable.not_not.1 h
    simp only [h', not_true_eq_false, if_false]
    try simp only [go_sem, reduceIte, Nat.reduceEqDiff, Nat.reduceAdd, Nat.reduceSub, Nat.reduceMul, Nat.reduceLT, Nat.reduceLeDiff, Nat.reducePow, Int.reduceToNat, Int.reduceLT, Int.reduceLE, Int.reduceEq, Int.reduceNe, Int.reduceAdd, Int.reduceSub, Int.reduceMul, Int.reduceNeg, N, e2, e3]
    exact ⟨und_any (by decide +kernel), finK_drop ⟨by simp [D.er, D.er1, Pg.cells, Pr.cells], rfl, rfl⟩⟩
end Go.Proofs.YtpblgfgcoamgmaaGreatS
namespace Go.Proofs.YtpblgfgcoamgmaaGreatS
open Go Go.Proofs.YtpblgfgcoamgmaaGreatV

variable {G : Heap}
attribute [local irreducible] VN VC VX VQ VY VW VTA VT0 VPP

def gNum (b : List Nat) (lim : Nat) (s : Sc) : Nat × Sc :=
  let n := nxU b s
  let s2 := failS n.2 2 (decide (lim < n.1))
  if s2.2 = 0 then (n.1, s2) else (0, s2)
def gId (b : List Nat) (least : Int) (s : Sc) : Nat × Sc := ((gNum b 1073741824 s).1, failS (gNum b 1073741824 s).2 5 (decide (((gNum b 1073741824 s).1 : Int) ≤ least)))
end Go.Proofs.YtpblgfgcoamgmaaGreatS
namespace Go.Proofs.YtpblgfgcoamgmaaGreatS
open Go Go.Proofs.YtpblgfgcoamgmaaGreatV

variable {G : Heap}
attribute [local irreducible] VN VC VX VQ VY VW VTA VT0 VPP VP

def gCells (b : List Nat) : Nat → Rw → Int → Sc → Rw × Sc
  | 0, l, _, s => (l, s)
  | n + 1, l, last, s => if s.2 = 0 then
      gCells b n (l ++ [(((gId b last s).1 : Int), ⟨false, (nxS b (gId b last s).2).1, (txtF b (nxS b (gId b last s).2).2).1⟩)]) (gId b last s).1 (txtF b (nxS b (gId b last s).2).2).2
    else (l, s)
def gRow (b : List Nat) (s : Sc) : Rw × Sc := gCells b (gNum b 64 s).1 [] 0 (gNum b 64 s).2
theorem gNum_le {b : List Nat} {lim : Nat} {s : Sc} : (gNum b lim s).1 ≤ lim := by
  unfold gNum
  dsimp only
  split
  · rename_i h
    unfold failS at h
    split at h
    · cases h
    · rename_i g
      refine Nat.le_of_not_lt fun h' => g ⟨h, by simp [h']⟩
  · exact Nat.zero_le _
end Go.Proofs.YtpblgfgcoamgmaaGreatS
namespace Go.Proofs.YtpblgfgcoamgmaaGreatS
open Go Go.Proofs.YtpblgfgcoamgmaaGreatV

variable {G : Heap}
attribute [local irreducible] VN VC VX VQ VY VW VTA VT0

end Go.Proofs.YtpblgfgcoamgmaaGreatS
namespace Go.Proofs.YtpblgfgcoamgmaaGreatS
open Go Go.Proofs.YtpblgfgcoamgmaaGreatV

def Sp (b : List Nat) (i : Nat) (x : List Nat) (j : Nat) : Prop := i ≤ j ∧ j ≤ b.length ∧ b.take i ++ x = b.take j
theorem Sp.trans {b x y : List Nat} {i j k : Nat} (h : Sp b i x j) (g : Sp b j y k) : Sp b i (x ++ y) k :=
  ⟨Nat.le_trans h.1 g.1, g.2.1, by rw [← List.append_assoc, h.2.2, g.2.2]⟩
theorem Sp.refl {b : List Nat} {i : Nat} (h : i ≤ b.length) : Sp b i [] i := ⟨Nat.le_refl _, h, by simp⟩
theorem Sp.len {b x : List Nat} {i j : Nat} (h : Sp b i x j) : j = i + x.length := by
  have := congrArg List.length h.2.2
  have h1 := h.1; have h2 := h.2.1
  simp only [List.length_append, List.length_take] at this; omega
theorem Sp.split {b x y : List Nat} {i k : Nat} (h : Sp b i (x ++ y) k) : Sp b i x (i + x.length) ∧ Sp b (i + x.length) y k := by
  have hk := h.len
  rw [List.length_append] at hk
  have h2 := h.2.1
  have e : b.take (i + x.length) = b.take i ++ x := by
    have h3 : (b.take k).take (i + x.length) = (b.take i ++ (x ++ y)).take (i + x.length) := by rw [h.2.2]
    rw [List.take_take, Nat.min_eq_left (by omega)] at h3
    rw [h3, ← List.append_assoc, List.take_append_of_le_length (by simp; omega), List.take_of_length_le (by simp; omega)]
  exact ⟨⟨by omega, by omega, e.symm⟩, by omega, h2, by rw [e, List.append_assoc]; exact h.2.2⟩
theorem Sp.whole {b x : List Nat} {i j : Nat} (h : Sp b i x j) : b = b.take i ++ x ++ b.drop j := by
  rw [h.2.2, List.take_append_drop]
theorem Sp.pre {b x : List Nat} {i j : Nat} (h : Sp b i x j) : (b.take i).length = i := by
  have h1 := h.1; have h2 := h.2.1
  rw [List.length_take]; omega
abbrev at0 (i : Nat) : Sc := ((i : Int), 0)
theorem readU_sp {b : List Nat} {n i j : Nat} (hn : n < 18446744073709551616) (h : Sp b i (enc n) j) : readU b (i : Nat) = (n, j, 0) := by
  have h1 := readU_enc (b.take i) (b.drop j) n hn
  rw [← h.whole, h.pre, ← h.len] at h1
  exact h1
theorem nxU_rd {b : List Nat} {n i j : Nat} (hn : n < 18446744073709551616) (h : Sp b i (enc n) j) : nxU b (at0 i) = (n, at0 j) := by
  unfold nxU; rw [if_pos rfl]; dsimp only; rw [readU_sp hn h]; rfl
theorem nxS_rd {b : List Nat} {v : Int} {i j : Nat} (hv : I64' v) (h : Sp b i (enc (zig v)) j) : nxS b (at0 i) = (v, at0 j) := by
  unfold nxS; rw [if_pos rfl]; dsimp only; rw [readU_sp (zig_lt hv) h]; dsimp only; rw [unzig_zig]; rfl
theorem one_rd {b : List Nat} {c most i j : Nat} (hc : c ≤ most) (h : Sp b i [c] j) : oneF b most (at0 i) = (c, at0 j) := by
  have hl := h.len
  have h2 := h.2.1
  have e : b.getD i 0 = c := by
    rw [h.whole, List.append_assoc, List.getD, List.getElem?_append_right (by rw [h.pre]; omega), h.pre, Nat.sub_self]; rfl
  simp only [List.length_cons, List.length_nil] at hl
  unfold oneF
  rw [if_neg (by simp), if_neg (by dsimp only; omega)]
  dsimp only
  rw [Int.toNat_natCast, e, failS, if_neg (by simp; omega)]
  simp [at0, hl]
theorem txt_rd {b : List Nat} {s : ByteArray} {i j : Nat} (hs : s.size ≤ 200) (h : Sp b i (enc s.size ++ sb s) j) : txtF b (at0 i) = (s, at0 j) := by
  have h1 := spanF_enc (b.take i) (sb s) (b.drop j) (by rw [sb_length]; omega)
  rw [sb_length, List.append_assoc (b.take i), ← h.whole, h.pre] at h1
  have hl := h.len
  rw [List.length_append, sb_length] at hl
  have hx : nxT b (at0 i) = (s, at0 j) := by
    unfold nxT; rw [if_pos rfl]; dsimp only; rw [h1]; dsimp only
    have e : (b.drop (i + (enc s.size).length)).take (i + (enc s.size).length + s.size - (i + (enc s.size).length)) = sb s := by
      have h3 := h.split
      have h4 := h3.2.whole
      have h5 := h3.2.pre
      rw [h4, List.append_assoc, List.drop_append_of_le_length (by omega), List.drop_of_length_le (by omega), List.nil_append, List.take_append_of_le_length (by rw [sb_length]; omega), List.take_of_length_le (by rw [sb_length]; omega)]
    rw [e, strN_sb]
    simp only [at0, hl, Nat.add_assoc]; rfl
  unfold txtF; rw [hx]; dsimp only
  rw [failS, if_neg (by simp; omega)]
theorem cnt_rd {b : List Nat} {n i j : Nat} (hn : n ≤ 16) (h : Sp b i (enc n) j) : cntF b (at0 i) = (n, at0 j) := by
  unfold cntF; rw [nxU_rd (by omega) h]; dsimp only
  have e : failS (at0 j) 2 (decide (16 < (n : Int))) = at0 j := by rw [failS, if_neg (by simp; omega)]
  rw [e, if_pos rfl]
theorem vals_rd {b : List Nat} : ∀ {l acc : List Vl} {i j : Nat}, (∀ v ∈ l, I64' v.n ∧ v.s.size ≤ 200) → Sp b i (l.flatMap encVl) j → valsF b l.length acc (at0 i) = (acc ++ l, at0 j)
  | [], acc, i, j, _, h => by
    have := h.len
    simp only [List.flatMap_nil, List.length_nil, Nat.add_zero] at this
    subst this; simp [valsF]
  | v :: l, acc, i, j, hv, h => by
    obtain ⟨h1, h2⟩ := hv v (by simp)
    rw [List.flatMap_cons, encVl, List.cons_append, ← List.singleton_append, List.append_assoc (enc (zig v.n)), List.append_assoc (enc (zig v.n))] at h
    obtain ⟨s1, h⟩ := h.split
    obtain ⟨s2, h⟩ := h.split
    obtain ⟨s3, h⟩ := h.split
    rw [List.length_cons, valsF, one_rd (by unfold bit; split <;> omega) s1]; dsimp only
    rw [nxS_rd h1 s2]; dsimp only
    rw [txt_rd h2 s3]; dsimp only
    rw [vals_rd (fun x hx => hv x (by simp [hx])) h]
    have : decide (bit v.null = 1) = v.null := by cases v.null <;> rfl
    rw [this]; simp
theorem kids_rd {b : List Nat} {rd : Sc → Pr × Sc} : ∀ {l acc : List Pr} {i j : Nat}, (∀ k ∈ l, ∀ i j, Sp b i (encP k) j → rd (at0 i) = (k, at0 j)) → Sp b i (l.flatMap encP) j → kidsF rd l.length acc (at0 i) = (acc ++ l, at0 j)
  | [], acc, i, j, _, h => by
    have := h.len
    simp only [List.flatMap_nil, List.length_nil, Nat.add_zero] at this
    subst this; simp [kidsF]
  | k :: l, acc, i, j, hk, h => by
    rw [List.flatMap_cons] at h
    obtain ⟨s1, h⟩ := h.split
    rw [List.length_cons, kidsF, if_pos rfl, hk k (by simp) _ _ s1]; dsimp only
    rw [kids_rd (fun x hx => hk x (by simp [hx])) h]; simp
theorem encP_eq (p : Pr) : encP p = encH p ++ p.kids.flatMap encP := by
  unfold encP
  rw [subs_eq, List.flatMap_cons, subsL_flat, List.flatMap_assoc]
theorem depN_kid {n : Nat} {p k : Pr} (h : depN (n + 1) p ≤ n + 1) (hk : k ∈ p.kids) : depN n k ≤ n := by
  rw [depN] at h
  have h1 : ∀ (l : List Nat) (a x : Nat), x = a ∨ x ∈ l → x ≤ l.foldl max a := by
    intro l
    induction l with
    | nil => intro a x hx; rcases hx with rfl | hx; exact Nat.le_refl _; simp at hx
    | cons y l ih =>
      intro a x hx
      rw [List.foldl_cons]
      rcases hx with rfl | hx
      · exact Nat.le_trans (Nat.le_max_left _ _) (ih _ _ (.inl rfl))
      · rcases List.mem_cons.1 hx with rfl | hx
        · exact Nat.le_trans (Nat.le_max_right _ _) (ih _ _ (.inl rfl))
        · exact ih _ _ (.inr hx)
  have := h1 (p.kids.map (depN n)) 0 (depN n k) (.inr (List.mem_map_of_mem hk))
  omega
theorem failS_f (s : Sc) (e : Int) : failS s e false = s := by simp [failS]
set_option maxHeartbeats 1000000 in
theorem predG_rd {b : List Nat} {m : Nat} {rd : Sc → Pr × Sc} {p : Pr} {i j : Nat} (hf : FormP p) (hi : PI p) (hm : 0 < p.kids.length → 2 ≤ m)
    (hrd : ∀ k ∈ p.kids, ∀ i j, Sp b i (encP k) j → rd (at0 i) = (k, at0 j)) (h : Sp b i (encP p) j) : predG b m rd (at0 i) = (p, at0 j) := by
  rw [encP_eq] at h
  obtain ⟨hop, hid, hlo, hhi, htx, hse, hki, s16, k16, one7, t200, v200⟩ := hf
  obtain ⟨i1, i2, i3, i4⟩ := hi
  obtain ⟨op, id, lo, hi', set, text, kids⟩ := p
  dsimp only [Pr.op, Pr.id, Pr.lo, Pr.hi, Pr.set, Pr.text, Pr.kids, usedP] at *
  obtain ⟨o, rfl⟩ : ∃ o : Nat, op = (o : Int) := ⟨op.toNat, by omega⟩
  simp only [encH, Pr.op, Pr.id, Pr.lo, Pr.hi, Pr.set, Pr.text, Pr.kids, Int.toNat_natCast] at h
  rw [← List.singleton_append, List.append_assoc] at h
  obtain ⟨s0, h⟩ := h.split
  have h1 := one_rd (most := 7) (by omega) s0
  unfold predG
  rw [h1]
  dsimp only
  have ho : o = 0 ∨ o = 1 ∨ o = 2 ∨ o = 3 ∨ o = 4 ∨ o = 5 ∨ o = 6 ∨ o = 7 := by omega
  have nil : ∀ {α : Type} {l : List α}, l.length = ([] : List α).length → l = [] := fun h => List.eq_nil_of_length_eq_zero h
  rcases ho with rfl | rfl | rfl | rfl | rfl | rfl | rfl | rfl
  · obtain rfl := nil hse; obtain rfl := nil hki
    simp [isAt] at h hid hlo hhi htx ⊢
    have hl := h.len
    simp at hl
    simp [hid, hlo, hhi, htx]; omega
  · obtain rfl := nil hki; obtain rfl := nil hse
    simp [isAt] at h hid hlo hhi htx ⊢
    obtain ⟨t1, h⟩ := h.split
    obtain ⟨t2, t3⟩ := h.split
    simp only [nxS_rd i1 t1, nxS_rd i2 t2, nxS_rd i3 t3]
    simp [htx]
  · obtain rfl := nil hki
    simp [isAt] at h hid hlo hhi htx ⊢
    obtain ⟨t1, h⟩ := h.split
    obtain ⟨t2, t3⟩ := h.split
    simp only [nxS_rd i1 t1, cnt_rd s16 t2, vals_rd (acc := []) (fun v hv => ⟨i4 v hv, v200 v hv⟩) t3]
    simp [hlo, hhi, htx]
  · obtain rfl := nil hki; obtain rfl := nil hse
    simp [isAt] at h hid hlo hhi htx ⊢
    obtain ⟨t1, t2⟩ := h.split
    simp only [nxS_rd i1 t1, txt_rd t200 t2]
    simp [hlo, hhi]
  · obtain rfl := nil hki; obtain rfl := nil hse
    simp [isAt] at h hid hlo hhi htx ⊢
    simp only [nxS_rd i1 h]
    simp [hlo, hhi, htx]
  · obtain rfl := nil hse
    simp [isAt] at h hid hlo hhi htx ⊢
    obtain ⟨t1, t2⟩ := h.split
    have f2 : (decide (0 < kids.length) && decide (m < 2)) = false := by
      by_cases z : 0 < kids.length
      · have := hm z; simp; omega
      · simp [z]
    simp only [cnt_rd k16 t1, f2, failS_f, kids_rd (acc := []) hrd t2]
    simp [hid, hlo, hhi, htx]
  · obtain rfl := nil hse
    simp [isAt] at h hid hlo hhi htx ⊢
    obtain ⟨t1, t2⟩ := h.split
    have f2 : (decide (0 < kids.length) && decide (m < 2)) = false := by
      by_cases z : 0 < kids.length
      · have := hm z; simp; omega
      · simp [z]
    simp only [cnt_rd k16 t1, f2, failS_f, kids_rd (acc := []) hrd t2]
    simp [hid, hlo, hhi, htx]
  · obtain rfl := nil hse
    simp [isAt] at h hid hlo hhi htx ⊢
    obtain ⟨t1, t2⟩ := h.split
    have f2 : (decide (0 < kids.length) && decide (m < 2)) = false := by
      by_cases z : 0 < kids.length
      · have := hm z; simp; omega
      · simp [z]
    have f7 : (!decide (kids.length = 1)) = false := by simp [one7 rfl]
    simp only [cnt_rd k16 t1, f2, failS_f, kids_rd (acc := []) hrd t2, f7]
    simp [hid, hlo, hhi, htx]
theorem pred_rd {b : List Nat} : ∀ {m : Nat} {p : Pr} {i j : Nat}, depN m p ≤ m → (∀ q ∈ subs p, FormP q ∧ PI q) → Sp b i (encP p) j → predF b m (at0 i) = (p, at0 j)
  | 0, p, i, j, hd, _, _ => by rw [depN] at hd; omega
  | m + 1, p, i, j, hd, hq, h => by
    have hp := hq p (by rw [subs_eq]; simp)
    have hs : ∀ k ∈ p.kids, ∀ q ∈ subs k, q ∈ subs p := fun k hk q hq => by
      rw [subs_eq, subsL_flat]
      exact List.mem_cons_of_mem _ (List.mem_flatMap.2 ⟨k, hk, hq⟩)
    refine predG_rd hp.1 hp.2 (fun h0 => ?_) (fun k hk i j hsp => pred_rd (depN_kid hd hk) (fun q hqk => hq q (hs k hk q hqk)) hsp) h
    obtain ⟨k, hk⟩ : ∃ k, k ∈ p.kids := List.exists_mem_of_length_pos h0
    have h1 := depN_kid hd hk
    cases m with
    | zero => rw [depN] at h1; omega
    | succ m => omega
theorem pDec_enc {b : List Nat} {p : Pr} {i j : Nat} (hw : wellF p = true) (hi : ∀ q ∈ subs p, PI q) (h : Sp b i (encP p) j) : pDecF b i = (p, (j : Int), 0) := by
  simp only [wellF, Bool.and_eq_true, decide_eq_true_eq, List.all_eq_true] at hw
  have h1 := h.1; have h2 := h.2.1
  unfold pDecF
  rw [if_neg (by omega), pred_rd hw.1 (fun q hq => ⟨hw.2 q hq, hi q hq⟩) h]
  simp
end Go.Proofs.YtpblgfgcoamgmaaGreatS
