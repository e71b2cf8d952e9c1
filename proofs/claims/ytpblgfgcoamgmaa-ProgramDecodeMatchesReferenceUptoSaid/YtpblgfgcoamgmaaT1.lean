/-
  Programs (package program): the readers of numbers and texts.
  Conditions: the bytes are at most 281474976710656.
-/
import Derived.Test.YtpblgfgcoamgmaaQ7
import Derived.Test.YtpblgfgcoamgmaaV33
set_option linter.unusedVariables false
set_option linter.unusedSimpArgs false
namespace Go.Proofs.YtpblgfgcoamgmaaS
open Go Go.Proofs.YtpblgfgcoamgmaaV

variable {G : Heap}
attribute [local irreducible] VN VC VX VQ VY VW VTA VT0

/-- An error that is thrown. -/
def errD (e : Int) : D := .iface 32 (.int .i64 e)
/-- A reader: the bytes and where it stands. -/
def rkC (tk : Tk) (b : List Nat) (p : Int) : List D := [.sl tk (bs b), .int .i64 p]
/-- What reading comes to: a value, or an error that is thrown. -/
def rdO (d : D) (e : Int) : Out := if e = 0 then .ret d else .pan (errD e)
theorem rdO_ret {d : D} {e : Int} (h : e = 0) : rdO d e = .ret d := if_pos h
theorem rdO_pan {d : D} {e : Int} (h : ¬ e = 0) : rdO d e = .pan (errD e) := if_neg h
/-- What is read, where the reader stands behind, the error. -/
def rdQ {α : Type} (p : Int) (r : α × Int × Int) : α × Int × Int := (r.1, if r.2.2 = 0 then r.2.1 else p, r.2.2)
def rU (b : List Nat) (p : Int) : Nat × Int × Int := rdQ p ((readU b p).1, ((readU b p).2.1 : Int), ((readU b p).2.2 : Int))
def rS (b : List Nat) (p : Int) : Int × Int × Int := rdQ p (unzig (readU b p).1, ((readU b p).2.1 : Int), ((readU b p).2.2 : Int))
def rT (b : List Nat) (p : Int) : ByteArray × Int × Int := rdQ p (strN ((b.drop (spanF b p).1).take ((spanF b p).2.1 - (spanF b p).1)), ((spanF b p).2.1 : Int), ((spanF b p).2.2 : Int))
def rP (b : List Nat) (p : Int) : Pr × Int × Int := rdQ p (pDecF b p)
def numF (b : List Nat) (lim : Nat) (p : Int) : Nat × Int × Int := if (rU b p).2.2 = 0 ∧ lim < (rU b p).1 then (0, (rU b p).2.1, 2) else rU b p
def idF (b : List Nat) (prev : Int) (p : Int) : Nat × Int × Int := if (numF b 1073741824 p).2.2 = 0 ∧ ((numF b 1073741824 p).1 : Int) ≤ prev then (0, (numF b 1073741824 p).2.1, 5) else numF b 1073741824 p
/-- The contract of a reader's method. -/
def VRd (P : Program) (G : Heap) (f : FuncId) (args : List D) (tk : Tk) (b : List Nat) (p : Int) (d : D) (at_ e : Int) : Prop :=
  VPP P G f (fun q => .pb q 0 :: args) (rkC tk b p) (rdO d e) (rkC tk b at_)

theorem pfail_ok (e : Int) : VNP P G 19 [.int .i64 e] (.pan (errD e)) := by
  unfold VNP
  refine VC.ofs (fun | 99999999 => [(0, [0])] | _ => []) [] mixed Try.func19 rfl rfl rfl rfl (by decide +kernel) (by simp) ?_
  simp only [go_sem, reduceIte, Nat.reduceEqDiff, Nat.reduceAdd, Nat.reduceSub, Nat.reduceMul, Nat.reduceLT, Nat.reduceLeDiff, Nat.reducePow, Int.reduceToNat, Int.reduceLT, Int.reduceLE, Int.reduceEq, Int.reduceNe, Int.reduceAdd, Int.reduceSub, Int.reduceMul, Int.reduceNeg]
  exact finP_pure ⟨rfl, rfl, rfl⟩
theorem preadU_ok (tk : Tk) (b : List Nat) (p : Int) (hb : Byt b) : VRd P G 63 [.clo (.func 64) [] []] tk b p (.int .u64 (rU b p).1) (rU b p).2.1 (rU b p).2.2 := by
  have hr := ReadU_ok (G := G) tk b p hb
  simp only [tri] at hr
  unfold VRd rU rdQ rkC
  generalize readU b p = r at hr ⊢
  intro q
  dsimp only
  refine VC.ofs (fun | 1 => [(0, []), (1, []), (2, []), (3, []), (4, []), (5, []), (6, []), (7, []), (8, []), (9, []), (10, []), (11, []), (12, []), (13, []), (14, []), (15, []), (16, [])] | 99999999 => [(0, [0, 1, 4, 5, 6, 7, 23])] | _ => []) [4] mixed Try.func63 rfl rfl rfl rfl (by decide +kernel) (by simp) ?_
  simp only [go_sem, reduceIte, Nat.reduceEqDiff, Nat.reduceAdd, Nat.reduceSub, Nat.reduceMul, Nat.reduceLT, Nat.reduceLeDiff, Nat.reducePow, Int.reduceToNat, Int.reduceLT, Int.reduceLE, Int.reduceEq, Int.reduceNe, Int.reduceAdd, Int.reduceSub, Int.reduceMul, Int.reduceNeg, ]
  refine cE_vn hr ?_
  by_cases k : (r.2.2 : Int) = 0
  · have k2 : r.2.2 = 0 := by omega
    simp only [go_sem, reduceIte, Nat.reduceEqDiff, Nat.reduceAdd, Nat.reduceSub, Nat.reduceMul, Nat.reduceLT, Nat.reduceLeDiff, Nat.reducePow, Int.reduceToNat, Int.reduceLT, Int.reduceLE, Int.reduceEq, Int.reduceNe, Int.reduceAdd, Int.reduceSub, Int.reduceMul, Int.reduceNeg, k]
    refine finK_var (b := q) (x := [.sl tk (bs b), .int .i64 r.2.1]) (by simp [Heap.set, k, k2]) ⟨?_, by simp [k, k2], rfl⟩
    simp [rdO, k, k2, D.er, D.er1]
  · have k2 : ¬ r.2.2 = 0 := by omega
    simp only [go_sem, reduceIte, Nat.reduceEqDiff, Nat.reduceAdd, Nat.reduceSub, Nat.reduceMul, Nat.reduceLT, Nat.reduceLeDiff, Nat.reducePow, Int.reduceToNat, Int.reduceLT, Int.reduceLE, Int.reduceEq, Int.reduceNe, Int.reduceAdd, Int.reduceSub, Int.reduceMul, Int.reduceNeg, k, ne_eq]
    refine cK_np (pfail_ok r.2.2) ?_
    simp only [go_sem, reduceIte, Nat.reduceEqDiff, Nat.reduceAdd, Nat.reduceSub, Nat.reduceMul, Nat.reduceLT, Nat.reduceLeDiff, Nat.reducePow, Int.reduceToNat, Int.reduceLT, Int.reduceLE, Int.reduceEq, Int.reduceNe, Int.reduceAdd, Int.reduceSub, Int.reduceMul, Int.reduceNeg, ]
    refine finP_var (b := q) (cs := [.sl tk (bs b), .int .i64 p]) (by simp [Heap.set, k, k2]) ⟨?_, by simp [k, k2], rfl⟩
    simp [rdO, k, k2]
theorem preadS_ok (tk : Tk) (b : List Nat) (p : Int) (hb : Byt b) : VRd P G 39 [.clo (.func 40) [] []] tk b p (.int .i64 (rS b p).1) (rS b p).2.1 (rS b p).2.2 := by
  have hr := ReadS_ok (G := G) tk b p hb
  simp only [triS] at hr
  unfold VRd rS rdQ rkC
  generalize readU b p = r at hr ⊢
  intro q
  dsimp only
  refine VC.ofs (fun | 1 => [(0, []), (1, []), (2, []), (3, []), (4, []), (5, []), (6, []), (7, []), (8, []), (9, []), (10, []), (11, []), (12, []), (13, []), (14, []), (15, []), (16, [])] | 99999999 => [(0, [0, 1, 4, 5, 6, 7, 23])] | _ => []) [4] mixed Try.func39 rfl rfl rfl rfl (by decide +kernel) (by simp) ?_
  simp only [go_sem, reduceIte, Nat.reduceEqDiff, Nat.reduceAdd, Nat.reduceSub, Nat.reduceMul, Nat.reduceLT, Nat.reduceLeDiff, Nat.reducePow, Int.reduceToNat, Int.reduceLT, Int.reduceLE, Int.reduceEq, Int.reduceNe, Int.reduceAdd, Int.reduceSub, Int.reduceMul, Int.reduceNeg, ]
  refine cE_vn hr ?_
  by_cases k : (r.2.2 : Int) = 0
  · have k2 : r.2.2 = 0 := by omega
    simp only [go_sem, reduceIte, Nat.reduceEqDiff, Nat.reduceAdd, Nat.reduceSub, Nat.reduceMul, Nat.reduceLT, Nat.reduceLeDiff, Nat.reducePow, Int.reduceToNat, Int.reduceLT, Int.reduceLE, Int.reduceEq, Int.reduceNe, Int.reduceAdd, Int.reduceSub, Int.reduceMul, Int.reduceNeg, k]
    refine finK_var (b := q) (x := [.sl tk (bs b), .int .i64 r.2.1]) (by simp [Heap.set, k, k2]) ⟨?_, by simp [k, k2], rfl⟩
    simp [rdO, k, k2, D.er, D.er1]
  · have k2 : ¬ r.2.2 = 0 := by omega
    simp only [go_sem, reduceIte, Nat.reduceEqDiff, Nat.reduceAdd, Nat.reduceSub, Nat.reduceMul, Nat.reduceLT, Nat.reduceLeDiff, Nat.reducePow, Int.reduceToNat, Int.reduceLT, Int.reduceLE, Int.reduceEq, Int.reduceNe, Int.reduceAdd, Int.reduceSub, Int.reduceMul, Int.reduceNeg, k, ne_eq]
    refine cK_np (pfail_ok r.2.2) ?_
    simp only [go_sem, reduceIte, Nat.reduceEqDiff, Nat.reduceAdd, Nat.reduceSub, Nat.reduceMul, Nat.reduceLT, Nat.reduceLeDiff, Nat.reducePow, Int.reduceToNat, Int.reduceLT, Int.reduceLE, Int.reduceEq, Int.reduceNe, Int.reduceAdd, Int.reduceSub, Int.reduceMul, Int.reduceNeg, ]
    refine finP_var (b := q) (cs := [.sl tk (bs b), .int .i64 p]) (by simp [Heap.set, k, k2]) ⟨?_, by simp [k, k2], rfl⟩
    simp [rdO, k, k2]
theorem preadT_ok (tk : Tk) (b : List Nat) (p : Int) (hb : Byt b) : VRd P G 41 [.clo (.func 42) [] []] tk b p (.str (rT b p).1) (rT b p).2.1 (rT b p).2.2 := by
  have hr := ReadText_ok (G := G) tk b p hb
  simp only [triT] at hr
  unfold VRd rT rdQ rkC
  generalize spanF b p = r at hr ⊢
  intro q
  dsimp only
  refine VC.ofs (fun | 1 => [(0, []), (1, []), (2, []), (3, []), (4, []), (5, []), (6, []), (7, []), (8, []), (9, []), (10, []), (11, []), (12, []), (13, []), (14, []), (15, []), (16, [])] | 99999999 => [(0, [0, 1, 4, 5, 6, 7, 23])] | _ => []) [4] mixed Try.func41 rfl rfl rfl rfl (by decide +kernel) (by simp) ?_
  simp only [go_sem, reduceIte, Nat.reduceEqDiff, Nat.reduceAdd, Nat.reduceSub, Nat.reduceMul, Nat.reduceLT, Nat.reduceLeDiff, Nat.reducePow, Int.reduceToNat, Int.reduceLT, Int.reduceLE, Int.reduceEq, Int.reduceNe, Int.reduceAdd, Int.reduceSub, Int.reduceMul, Int.reduceNeg, ]
  refine cE_vn hr ?_
  by_cases k : (r.2.2 : Int) = 0
  · have k2 : r.2.2 = 0 := by omega
    simp only [go_sem, reduceIte, Nat.reduceEqDiff, Nat.reduceAdd, Nat.reduceSub, Nat.reduceMul, Nat.reduceLT, Nat.reduceLeDiff, Nat.reducePow, Int.reduceToNat, Int.reduceLT, Int.reduceLE, Int.reduceEq, Int.reduceNe, Int.reduceAdd, Int.reduceSub, Int.reduceMul, Int.reduceNeg, k]
    refine finK_var (b := q) (x := [.sl tk (bs b), .int .i64 r.2.1]) (by simp [Heap.set, k, k2]) ⟨?_, by simp [k, k2], rfl⟩
    simp [rdO, k, k2, D.er, D.er1]
  · have k2 : ¬ r.2.2 = 0 := by omega
    simp only [go_sem, reduceIte, Nat.reduceEqDiff, Nat.reduceAdd, Nat.reduceSub, Nat.reduceMul, Nat.reduceLT, Nat.reduceLeDiff, Nat.reducePow, Int.reduceToNat, Int.reduceLT, Int.reduceLE, Int.reduceEq, Int.reduceNe, Int.reduceAdd, Int.reduceSub, Int.reduceMul, Int.reduceNeg, k, ne_eq]
    refine cK_np (pfail_ok r.2.2) ?_
    simp only [go_sem, reduceIte, Nat.reduceEqDiff, Nat.reduceAdd, Nat.reduceSub, Nat.reduceMul, Nat.reduceLT, Nat.reduceLeDiff, Nat.reducePow, Int.reduceToNat, Int.reduceLT, Int.reduceLE, Int.reduceEq, Int.reduceNe, Int.reduceAdd, Int.reduceSub, Int.reduceMul, Int.reduceNeg, ]
    refine finP_var (b := q) (cs := [.sl tk (bs b), .int .i64 p]) (by simp [Heap.set, k, k2]) ⟨?_, by simp [k, k2], rfl⟩
    simp [rdO, k, k2]
theorem preadP_ok (tk : Tk) (b : List Nat) (p : Int) (hb : Byt b) (hbl : b.length ≤ 1099511627776) : VRd P G 13 [.clo (.func 14) [] []] tk b p (.agg (rP b p).1.cells) (rP b p).2.1 (rP b p).2.2 := by
  have hr := pDecode_ok (G := G) tk b p hb hbl
  unfold VRd rP rdQ rkC
  generalize pDecF b p = r at hr ⊢
  intro q
  dsimp only
  refine VC.ofc (fun | 1 => [(0, []), (1, []), (2, []), (3, []), (4, []), (5, []), (6, []), (7, []), (8, []), (9, [14]), (10, []), (11, []), (12, []), (13, []), (14, []), (15, []), (16, []), (17, [])] | 99999999 => [(0, [0, 1, 4, 5, 6, 7, 23])] | _ => []) [.cell 4 27] mixed Try.func13 rfl rfl rfl rfl (by decide +kernel) (by simp) ?_
  generalize hβ : Heap.set Heap.nil q [.sl tk (bs b), .int .i64 p] = β0
  have eq : β0 q = some [.sl tk (bs b), .int .i64 p] := hit_set hβ
  clear hβ
  have N := trivial
  have eq0 := eq
  try simp only [go_sem, reduceIte, Nat.reduceEqDiff, Nat.reduceAdd, Nat.reduceSub, Nat.reduceMul, Nat.reduceLT, Nat.reduceLeDiff, Nat.reducePow, Int.reduceToNat, Int.reduceLT, Int.reduceLE, Int.reduceEq, Int.reduceNe, Int.reduceAdd, Int.reduceSub, Int.reduceMul, Int.reduceNeg, ]
  refine new_any fun b4 hb4 => ?_
  have N := And.intro N (box_ne hb4 eq)
  generalize hβ_ : Heap.set _ b4 _ = β_
  have e4 := hit_set hβ_
  have eq := keep_new hβ_ hb4 eq
  clear hβ_ hb4
  try simp only [go_sem, reduceIte, Nat.reduceEqDiff, Nat.reduceAdd, Nat.reduceSub, Nat.reduceMul, Nat.reduceLT, Nat.reduceLeDiff, Nat.reducePow, Int.reduceToNat, Int.reduceLT, Int.reduceLE, Int.reduceEq, Int.reduceNe, Int.reduceAdd, Int.reduceSub, Int.reduceMul, Int.reduceNeg, N, eq0, eq, e4]
  refine cE_vn hr ?_
  try simp only [go_sem, reduceIte, Nat.reduceEqDiff, Nat.reduceAdd, Nat.reduceSub, Nat.reduceMul, Nat.reduceLT, Nat.reduceLeDiff, Nat.reducePow, Int.reduceToNat, Int.reduceLT, Int.reduceLE, Int.reduceEq, Int.reduceNe, Int.reduceAdd, Int.reduceSub, Int.reduceMul, Int.reduceNeg, N, eq, e4]
  refine new_any fun b5 hb5 => ?_
  have N := And.intro N (box_ne hb5 e4)
  have N := And.intro N (box_ne hb5 eq)
  try simp only [go_sem, reduceIte, Nat.reduceEqDiff, Nat.reduceAdd, Nat.reduceSub, Nat.reduceMul, Nat.reduceLT, Nat.reduceLeDiff, Nat.reducePow, Int.reduceToNat, Int.reduceLT, Int.reduceLE, Int.reduceEq, Int.reduceNe, Int.reduceAdd, Int.reduceSub, Int.reduceMul, Int.reduceNeg, N, eq, e4]
  by_cases k : (r.2.2 : Int) = 0
  · have k2 : r.2.2 = 0 := by omega
    try simp only [go_sem, reduceIte, Nat.reduceEqDiff, Nat.reduceAdd, Nat.reduceSub, Nat.reduceMul, Nat.reduceLT, Nat.reduceLeDiff, Nat.reducePow, Int.reduceToNat, Int.reduceLT, Int.reduceLE, Int.reduceEq, Int.reduceNe, Int.reduceAdd, Int.reduceSub, Int.reduceMul, Int.reduceNeg, k, N, eq, e4]
    refine finK_var (b := q) (x := [.sl tk (bs b), .int .i64 r.2.1]) (by simp [Heap.set, N]) ⟨?_, rfl, rfl⟩
    simp [rdO, D.er, D.er1, Pr_er]
  · have k2 : ¬ r.2.2 = 0 := by omega
    try simp only [go_sem, reduceIte, Nat.reduceEqDiff, Nat.reduceAdd, Nat.reduceSub, Nat.reduceMul, Nat.reduceLT, Nat.reduceLeDiff, Nat.reducePow, Int.reduceToNat, Int.reduceLT, Int.reduceLE, Int.reduceEq, Int.reduceNe, Int.reduceAdd, Int.reduceSub, Int.reduceMul, Int.reduceNeg, k, ne_eq, N, eq, e4]
    refine cK_np (pfail_ok r.2.2) ?_
    try simp only [go_sem, reduceIte, Nat.reduceEqDiff, Nat.reduceAdd, Nat.reduceSub, Nat.reduceMul, Nat.reduceLT, Nat.reduceLeDiff, Nat.reducePow, Int.reduceToNat, Int.reduceLT, Int.reduceLE, Int.reduceEq, Int.reduceNe, Int.reduceAdd, Int.reduceSub, Int.reduceMul, Int.reduceNeg, ]
    refine finP_var (b := q) (cs := [.sl tk (bs b), .int .i64 p]) (by simp [Heap.set, N, eq]) ⟨?_, by simp [k, k2], rfl⟩
    simp [rdO, k, k2]
theorem pnumber_ok (tk : Tk) (b : List Nat) (p : Int) (hb : Byt b) (lim : Nat) (hl : lim ≤ 1073741824) : VRd P G 35 [.int .i64 lim] tk b p (.int .i64 (numF b lim p).1) (numF b lim p).2.1 (numF b lim p).2.2 := by
  have hr := preadU_ok (G := G) tk b p hb
  unfold VRd numF
  unfold VRd at hr
  have hv : (rU b p).1 < 2^64 := (readU_spec b p hb).val
  generalize rU b p = r at hr hv ⊢
  intro q
  refine VC.ofs (fun | 99999999 => [(0, [0, 1, 4, 5, 11])] | _ => []) [4] mixed Try.func35 rfl rfl rfl rfl (by decide +kernel) (by simp) ?_
  try simp only [go_sem, reduceIte, Nat.reduceEqDiff, Nat.reduceAdd, Nat.reduceSub, Nat.reduceMul, Nat.reduceLT, Nat.reduceLeDiff, Nat.reducePow, Int.reduceToNat, Int.reduceLT, Int.reduceLE, Int.reduceEq, Int.reduceNe, Int.reduceAdd, Int.reduceSub, Int.reduceMul, Int.reduceNeg, ]
  refine cK_pp hr (hit_set rfl) ?_
  by_cases k : r.2.2 = 0
  · rw [rdO_ret k]
    have hm : (lim : Int) % 18446744073709551616 = lim := by omega
    try simp only [go_sem, reduceIte, Nat.reduceEqDiff, Nat.reduceAdd, Nat.reduceSub, Nat.reduceMul, Nat.reduceLT, Nat.reduceLeDiff, Nat.reducePow, Int.reduceToNat, Int.reduceLT, Int.reduceLE, Int.reduceEq, Int.reduceNe, Int.reduceAdd, Int.reduceSub, Int.reduceMul, Int.reduceNeg, hm]
    refine cd_dec (fun h => ?_) (fun h => ?_)
    · have h' : lim < r.1 := by omega
      try simp only [go_sem, reduceIte, Nat.reduceEqDiff, Nat.reduceAdd, Nat.reduceSub, Nat.reduceMul, Nat.reduceLT, Nat.reduceLeDiff, Nat.reducePow, Int.reduceToNat, Int.reduceLT, Int.reduceLE, Int.reduceEq, Int.reduceNe, Int.reduceAdd, Int.reduceSub, Int.reduceMul, Int.reduceNeg, ]
      refine cK_np (pfail_ok 2) ?_
      try simp only [go_sem, reduceIte, Nat.reduceEqDiff, Nat.reduceAdd, Nat.reduceSub, Nat.reduceMul, Nat.reduceLT, Nat.reduceLeDiff, Nat.reducePow, Int.reduceToNat, Int.reduceLT, Int.reduceLE, Int.reduceEq, Int.reduceNe, Int.reduceAdd, Int.reduceSub, Int.reduceMul, Int.reduceNeg, ]
      refine finP_var (b := q) (cs := rkC tk b r.2.1) (by simp [Heap.set]) ⟨?_, by simp [k, h'], rfl⟩
      simp [rdO, k, h']
    · have h' : ¬ lim < r.1 := by omega
      try simp only [go_sem, reduceIte, Nat.reduceEqDiff, Nat.reduceAdd, Nat.reduceSub, Nat.reduceMul, Nat.reduceLT, Nat.reduceLeDiff, Nat.reducePow, Int.reduceToNat, Int.reduceLT, Int.reduceLE, Int.reduceEq, Int.reduceNe, Int.reduceAdd, Int.reduceSub, Int.reduceMul, Int.reduceNeg, ]
      refine finK_var (b := q) (x := rkC tk b r.2.1) (by simp [Heap.set]) ⟨?_, by simp [k, h'], rfl⟩
      have e : IntKind.wrap .i64 (r.1 : Int) = r.1 := wrap_i64 (by omega) (by omega)
      simp [rdO, k, h', D.er, D.er1, e]
  · rw [rdO_pan k]
    try simp only [go_sem, reduceIte, Nat.reduceEqDiff, Nat.reduceAdd, Nat.reduceSub, Nat.reduceMul, Nat.reduceLT, Nat.reduceLeDiff, Nat.reducePow, Int.reduceToNat, Int.reduceLT, Int.reduceLE, Int.reduceEq, Int.reduceNe, Int.reduceAdd, Int.reduceSub, Int.reduceMul, Int.reduceNeg, ]
    refine finP_var (b := q) (cs := rkC tk b r.2.1) (by simp [Heap.set]) ⟨?_, by simp [k], rfl⟩
    simp [rdO, k]
theorem numF_le {b : List Nat} {lim : Nat} {p : Int} (h : (numF b lim p).2.2 = 0) : (numF b lim p).1 ≤ lim := by
  unfold numF at h ⊢
  split at h
  · cases h
  · rename_i g
    rw [if_neg g]
    exact Nat.le_of_not_lt fun h' => g ⟨h, h'⟩
theorem pid_ok (tk : Tk) (b : List Nat) (p : Int) (hb : Byt b) (prev : Int) : VRd P G 38 [.int .i64 prev] tk b p (.int .i64 (idF b prev p).1) (idF b prev p).2.1 (idF b prev p).2.2 := by
  have hr := pnumber_ok (G := G) tk b p hb 1073741824 (by omega)
  unfold VRd idF
  unfold VRd at hr
  generalize numF b 1073741824 p = r at hr ⊢
  intro q
  refine VC.ofs (fun | 99999999 => [(0, [0, 1, 4, 5, 10])] | _ => []) [4] mixed Try.func38 rfl rfl rfl rfl (by decide +kernel) (by simp) ?_
  try simp only [go_sem, reduceIte, Nat.reduceEqDiff, Nat.reduceAdd, Nat.reduceSub, Nat.reduceMul, Nat.reduceLT, Nat.reduceLeDiff, Nat.reducePow, Int.reduceToNat, Int.reduceLT, Int.reduceLE, Int.reduceEq, Int.reduceNe, Int.reduceAdd, Int.reduceSub, Int.reduceMul, Int.reduceNeg, ]
  refine cK_pp hr (hit_set rfl) ?_
  by_cases k : r.2.2 = 0
  · rw [rdO_ret k]
    try simp only [go_sem, reduceIte, Nat.reduceEqDiff, Nat.reduceAdd, Nat.reduceSub, Nat.reduceMul, Nat.reduceLT, Nat.reduceLeDiff, Nat.reducePow, Int.reduceToNat, Int.reduceLT, Int.reduceLE, Int.reduceEq, Int.reduceNe, Int.reduceAdd, Int.reduceSub, Int.reduceMul, Int.reduceNeg, ]
    refine cd_dec (fun h => ?_) (fun h => ?_)
    · try simp only [go_sem, reduceIte, Nat.reduceEqDiff, Nat.reduceAdd, Nat.reduceSub, Nat.reduceMul, Nat.reduceLT, Nat.reduceLeDiff, Nat.reducePow, Int.reduceToNat, Int.reduceLT, Int.reduceLE, Int.reduceEq, Int.reduceNe, Int.reduceAdd, Int.reduceSub, Int.reduceMul, Int.reduceNeg, ]
      refine cK_np (pfail_ok 5) ?_
      try simp only [go_sem, reduceIte, Nat.reduceEqDiff, Nat.reduceAdd, Nat.reduceSub, Nat.reduceMul, Nat.reduceLT, Nat.reduceLeDiff, Nat.reducePow, Int.reduceToNat, Int.reduceLT, Int.reduceLE, Int.reduceEq, Int.reduceNe, Int.reduceAdd, Int.reduceSub, Int.reduceMul, Int.reduceNeg, ]
      refine finP_var (b := q) (cs := rkC tk b r.2.1) (by simp [Heap.set]) ⟨?_, by simp [k, h], rfl⟩
      simp [rdO, k, h]
    · try simp only [go_sem, reduceIte, Nat.reduceEqDiff, Nat.reduceAdd, Nat.reduceSub, Nat.reduceMul, Nat.reduceLT, Nat.reduceLeDiff, Nat.reducePow, Int.reduceToNat, Int.reduceLT, Int.reduceLE, Int.reduceEq, Int.reduceNe, Int.reduceAdd, Int.reduceSub, Int.reduceMul, Int.reduceNeg, ]
      refine finK_var (b := q) (x := rkC tk b r.2.1) (by simp [Heap.set]) ⟨?_, by simp [k, h], rfl⟩
      simp [rdO, k, h, D.er, D.er1]
  · rw [rdO_pan k]
    try simp only [go_sem, reduceIte, Nat.reduceEqDiff, Nat.reduceAdd, Nat.reduceSub, Nat.reduceMul, Nat.reduceLT, Nat.reduceLeDiff, Nat.reducePow, Int.reduceToNat, Int.reduceLT, Int.reduceLE, Int.reduceEq, Int.reduceNe, Int.reduceAdd, Int.reduceSub, Int.reduceMul, Int.reduceNeg, ]
    refine finP_var (b := q) (cs := rkC tk b r.2.1) (by simp [Heap.set]) ⟨?_, by simp [k], rfl⟩
    simp [rdO, k]
end Go.Proofs.YtpblgfgcoamgmaaS
