/-
  Programs: the examples of fenlandlaw27.
  Conditions: none.
-/
import Derived.Test.YtpblgfgcoamgmaaTE
set_option linter.unusedVariables false
set_option linter.unusedSimpArgs false
namespace Go.Proofs.YtpblgfgcoamgmaaS
open Go Go.Proofs.YtpblgfgcoamgmaaV

variable {G : Heap}
attribute [local irreducible] VN VC VX VQ VY VW VTA VT0 VPP VP

section
variable {P : Program} {β : Heap} {ω : List Nat} {f : FuncId} {args args' : List D} {d : D} {ops : Array Oper} {rest : List Oper} {es : List Ent} {Q : VE → St → Prop} {dst : Option Tmp} {σ : Sg} {U : List Nat} {i : Nat} {rd : Rd}
/-- A call with literal arguments, whose tokens are forgotten. -/
theorem cK_lit (h : VN P G f args' d) (e : args.map D.er = args') (hk : Ko P G ops rest Q dst σ d β ω) : cK P G (.clo (.func f) [] []) args β ω ops rest Q dst σ := cK_vn (VN.er (by rw [e]; exact h)) hk
theorem cE_lit (h : VN P G f args' d) (e : args.map D.er = args') (hk : Kd P G ops es Q dst σ d rd β ω) : cE P G U i (.clo (.func f) [] []) True args rd β ω ops es Q dst σ := cE_vn (VN.er (by rw [e]; exact h)) hk
end
theorem sPrE {p : Pr} (h : wellF p = true) (hi : ((subs p).all fun q => decide (I64' q.id) && decide (I64' q.lo) && decide (I64' q.hi) && q.set.all fun v => decide (I64' v.n)) = true) : PrE p :=
  ⟨h, fun q hq => by
    have := List.all_eq_true.1 hi q hq
    simp only [Bool.and_eq_true, decide_eq_true_eq, List.all_eq_true] at this
    exact ⟨this.1.1.1, this.1.1.2, this.1.2, this.2⟩⟩
theorem nulE : PrE Pr.nul := sPrE (by decide +kernel) (by decide +kernel)
theorem pgNulE : PgE Pg.nul := ⟨nulE, nulE, by decide, by simp [Pg.nul], by decide, by simp [Pg.nul]⟩
def row27 : Rw := [(1, ⟨false, 5, ByteArray.empty⟩)]
def tab27 : Tbl := ⟨2, [(0, row27), (1, row27)]⟩
def gu27 (lo hi : Int) : Gu := (Pr.nul, 1, lo, hi)
theorem encE27 : PgE (Pr.nul, Pr.nul, [row27], [gu27 1 9]) := by
  refine ⟨nulE, nulE, by decide, ?_, by decide, ?_⟩
  · intro r hr
    simp only [List.mem_singleton] at hr
    subst hr
    exact ⟨by decide, by simp [row27, RwE]; decide⟩
  · intro x hx
    simp only [List.mem_singleton] at hx
    subst hx
    exact ⟨nulE, by decide, by decide, by decide⟩
theorem pgErr {b : List Nat} {e : Int} (he : e ≠ 0) (h : (pgDecF b).2 = e) : pgDecF b = (Pg.nul, e) := by
  unfold pgDecF at h ⊢
  dsimp only at h ⊢
  split
  · rename_i k; rw [if_pos k] at h; rw [h]
  rename_i k; rw [if_neg k] at h
  split
  · rename_i k; rw [if_pos k] at h; rw [h]
  rename_i k; rw [if_neg k] at h
  split
  · rename_i k; rw [if_pos k] at h; rw [h]
  rename_i k; rw [if_neg k] at h
  split
  · rename_i k; rw [if_pos k] at h; rw [h]
  rename_i k; rw [if_neg k] at h
  split
  · rename_i k; rw [if_pos k] at h; rw [← h]
  rename_i k; rw [if_neg k] at h
  exact absurd h.symm he
theorem dec27 (tk : Tk) (b : List Nat) (r : Pg × Int) (hb : Byt b) (hl : b.length ≤ 1099511627776) (h : pgDecF b = r) : VN P G 5 [.sl tk (bs b)] (.tup [.agg r.1.cells, .int .i64 r.2]) := by
  subst h; exact pgDecode_ok tk b hb hl
theorem run27 (g : Pg) (t : Tbl) (r : Tbl × Int) (hn : I64 t.next) (ht : t.l.length ≤ 1048576) (h : runF g t = r) : VN P G 8 [.agg g.cells, .agg t.cells] (.tup [.agg r.1.cells, .int .i64 r.2]) := by
  subst h; exact Run_ok g t hn ht
theorem check27 (g : Pg) (t : Tbl) (r : Int × Int) (h : checkF t g.2.2.2 = r) : VN P G 9 [.agg g.cells, .agg t.cells] (.tup [.int .i64 r.1, .int .i64 r.2]) := by
  subst h; exact Check_ok g t
theorem enc27 (g : Pg) (x : List Nat) (hg : PgE g) (h : encPg g = x) (hl : x.length ≤ 4000000) : VN P G 10 [.agg g.cells] (.sl .none (bs x)) := by
  subst h; exact pEncode27_ok g hg hl
set_option maxRecDepth 100000 in
set_option maxHeartbeats 8000000 in
theorem law27_sanity_ok : VN P G 4 [] (.bool true) := by
  have hr1 := run27 (G := G) (Pr.nul, Pr.nul, [row27], []) tab27 (⟨3, [(2, row27)]⟩, 0) (by decide) (by decide) (by decide +kernel)
  have hc1 := check27 (G := G) (Pr.nul, Pr.nul, [], [gu27 1 9]) Tbl.nul (0, 270) (by decide +kernel)
  have hr2 := run27 (G := G) (Pr.nul, Pr.nul, [], [gu27 1 9]) tab27 (Tbl.nul, 270) (by decide) (by decide) (by decide +kernel)
  have hc2 := check27 (G := G) (Pr.nul, Pr.nul, [], [gu27 10 10]) tab27 (1, 0) (by decide +kernel)
  have hd1 := fun tk => dec27 (G := G) tk [0, 0, 0, 0] (Pg.nul, 0) (byt_all (by decide)) (by decide) (by
    have h := pgDec_enc pgNulE
    rw [show encPg Pg.nul = [0, 0, 0, 0] from by decide +kernel] at h
    exact h)
  have hd2 := fun tk => dec27 (G := G) tk [0, 0, 0, 0, 0] (Pg.nul, 5) (byt_all (by decide)) (by decide) (by
    have h := pgDec_more pgNulE (x := [0]) (by simp)
    rw [show encPg Pg.nul = [0, 0, 0, 0] from by decide +kernel] at h
    exact h)
  have hd3 := fun tk => dec27 (G := G) tk [] (Pg.nul, 6) (byt_all (by decide)) (by decide) (pgErr (by decide) (by decide +kernel))
  have he := enc27 (G := G) (Pr.nul, Pr.nul, [row27], [gu27 1 9]) [0, 0, 1, 1, 1, 10, 0, 1, 0, 1, 2, 18] encE27 (by decide +kernel) (by decide)
  have hs := SameTable_refl (G := G) ⟨3, [(2, row27)]⟩
  have hs2 := Same27_ok (G := G) Pg.nul
  unfold VN
  refine VC.ofs (fun | 99999999 => [(0, [0, 1, 2, 3, 4, 5, 6, 7, 9, 10, 11, 12, 13, 15, 17, 18])] | _ => []) [0] mixed Try.func4 rfl rfl rfl rfl (by decide +kernel) (by simp) ?_
  simp only [go_sem, reduceIte, Nat.reduceEqDiff, Nat.reduceAdd, Nat.reduceSub, Nat.reduceMul, Nat.reduceLT, Nat.reduceLeDiff, Nat.reducePow, Int.reduceToNat, Int.reduceLT, Int.reduceLE, Int.reduceEq, Int.reduceNe, Int.reduceAdd, Int.reduceSub, Int.reduceMul, Int.reduceNeg]
  intro b1
  generalize hβ : Heap.set _ b1 _ = β0
  have e1 := hit_set hβ
  clear hβ
  have N := trivial
  try simp only [go_sem, reduceIte, Nat.reduceEqDiff, Nat.reduceAdd, Nat.reduceSub, Nat.reduceMul, Nat.reduceLT, Nat.reduceLeDiff, Nat.reducePow, Int.reduceToNat, Int.reduceLT, Int.reduceLE, Int.reduceEq, Int.reduceNe, Int.reduceAdd, Int.reduceSub, Int.reduceMul, Int.reduceNeg, e1]
  refine new_any fun b2 hb2 => ?_
  have N := And.intro N (box_ne hb2 e1)
  generalize hβ_ : Heap.set _ b2 _ = β_
  have e2 := hit_set hβ_
  have e1 := keep_new hβ_ hb2 e1
  clear hβ_ hb2
  try simp only [go_sem, reduceIte, Nat.reduceEqDiff, Nat.reduceAdd, Nat.reduceSub, Nat.reduceMul, Nat.reduceLT, Nat.reduceLeDiff, Nat.reducePow, Int.reduceToNat, Int.reduceLT, Int.reduceLE, Int.reduceEq, Int.reduceNe, Int.reduceAdd, Int.reduceSub, Int.reduceMul, Int.reduceNeg, N, e1, e2]
  first | refine cK_lit hr1 (by rfl) ?_ | refine cE_lit hr1 (by rfl) ?_
  simp only [Tbl.cells, Tbl.nul, lnD, row27, List.map_cons, List.map_nil, clD]
  try simp only [go_sem, reduceIte, Nat.reduceEqDiff, Nat.reduceAdd, Nat.reduceSub, Nat.reduceMul, Nat.reduceLT, Nat.reduceLeDiff, Nat.reducePow, Int.reduceToNat, Int.reduceLT, Int.reduceLE, Int.reduceEq, Int.reduceNe, Int.reduceAdd, Int.reduceSub, Int.reduceMul, Int.reduceNeg, N, e1, e2]
  refine new_any fun b3 hb3 => ?_
  have N := And.intro N (box_ne hb3 e1)
  have N := And.intro N (box_ne hb3 e2)
  generalize hβ_ : Heap.set _ b3 _ = β_
  have e3 := hit_set hβ_
  have e1 := keep_new hβ_ hb3 e1
  have e2 := keep_new hβ_ hb3 e2
  clear hβ_ hb3
  try simp only [go_sem, reduceIte, Nat.reduceEqDiff, Nat.reduceAdd, Nat.reduceSub, Nat.reduceMul, Nat.reduceLT, Nat.reduceLeDiff, Nat.reducePow, Int.reduceToNat, Int.reduceLT, Int.reduceLE, Int.reduceEq, Int.reduceNe, Int.reduceAdd, Int.reduceSub, Int.reduceMul, Int.reduceNeg, N, e1, e2, e3]
  refine new_any fun b5 hb5 => ?_
  have N := And.intro N (box_ne hb5 e1)
  have N := And.intro N (box_ne hb5 e2)
  have N := And.intro N (box_ne hb5 e3)
  generalize hβ_ : Heap.set _ b5 _ = β_
  have e5 := hit_set hβ_
  have e1 := keep_new hβ_ hb5 e1
  have e2 := keep_new hβ_ hb5 e2
  have e3 := keep_new hβ_ hb5 e3
  clear hβ_ hb5
  try simp only [go_sem, reduceIte, Nat.reduceEqDiff, Nat.reduceAdd, Nat.reduceSub, Nat.reduceMul, Nat.reduceLT, Nat.reduceLeDiff, Nat.reducePow, Int.reduceToNat, Int.reduceLT, Int.reduceLE, Int.reduceEq, Int.reduceNe, Int.reduceAdd, Int.reduceSub, Int.reduceMul, Int.reduceNeg, N, e1, e2, e3, e5]
  first | refine cK_lit hc1 (by rfl) ?_ | refine cE_lit hc1 (by rfl) ?_
  try simp only [go_sem, reduceIte, Nat.reduceEqDiff, Nat.reduceAdd, Nat.reduceSub, Nat.reduceMul, Nat.reduceLT, Nat.reduceLeDiff, Nat.reducePow, Int.reduceToNat, Int.reduceLT, Int.reduceLE, Int.reduceEq, Int.reduceNe, Int.reduceAdd, Int.reduceSub, Int.reduceMul, Int.reduceNeg, N, e1, e2, e3, e5]
  first | refine cK_lit hr2 (by rfl) ?_ | refine cE_lit hr2 (by rfl) ?_
  simp only [Tbl.cells, Tbl.nul, lnD, row27, List.map_cons, List.map_nil, clD]
  try simp only [go_sem, reduceIte, Nat.reduceEqDiff, Nat.reduceAdd, Nat.reduceSub, Nat.reduceMul, Nat.reduceLT, Nat.reduceLeDiff, Nat.reducePow, Int.reduceToNat, Int.reduceLT, Int.reduceLE, Int.reduceEq, Int.reduceNe, Int.reduceAdd, Int.reduceSub, Int.reduceMul, Int.reduceNeg, N, e1, e2, e3, e5]
  refine new_any fun b8 hb8 => ?_
  have N := And.intro N (box_ne hb8 e1)
  have N := And.intro N (box_ne hb8 e2)
  have N := And.intro N (box_ne hb8 e3)
  have N := And.intro N (box_ne hb8 e5)
  generalize hβ_ : Heap.set _ b8 _ = β_
  have e8 := hit_set hβ_
  have e1 := keep_new hβ_ hb8 e1
  have e2 := keep_new hβ_ hb8 e2
  have e3 := keep_new hβ_ hb8 e3
  have e5 := keep_new hβ_ hb8 e5
  clear hβ_ hb8
  try simp only [go_sem, reduceIte, Nat.reduceEqDiff, Nat.reduceAdd, Nat.reduceSub, Nat.reduceMul, Nat.reduceLT, Nat.reduceLeDiff, Nat.reducePow, Int.reduceToNat, Int.reduceLT, Int.reduceLE, Int.reduceEq, Int.reduceNe, Int.reduceAdd, Int.reduceSub, Int.reduceMul, Int.reduceNeg, N, e1, e2, e3, e5, e8]
  first | refine cK_lit hc2 (by rfl) ?_ | refine cE_lit hc2 (by rfl) ?_
  try simp only [go_sem, reduceIte, Nat.reduceEqDiff, Nat.reduceAdd, Nat.reduceSub, Nat.reduceMul, Nat.reduceLT, Nat.reduceLeDiff, Nat.reducePow, Int.reduceToNat, Int.reduceLT, Int.reduceLE, Int.reduceEq, Int.reduceNe, Int.reduceAdd, Int.reduceSub, Int.reduceMul, Int.reduceNeg, N, e1, e2, e3, e5, e8]
  first | refine cK_vn (hd1 _) ?_ | refine cE_vn (hd1 _) ?_
  simp only [Pg.cells16, Pg.c16, Pg.nul, Pr.nul, Pr.op, Pr.id, Pr.lo, Pr.hi, Pr.set, Pr.text, Pr.kids, List.map_nil]
  try simp only [go_sem, reduceIte, Nat.reduceEqDiff, Nat.reduceAdd, Nat.reduceSub, Nat.reduceMul, Nat.reduceLT, Nat.reduceLeDiff, Nat.reducePow, Int.reduceToNat, Int.reduceLT, Int.reduceLE, Int.reduceEq, Int.reduceNe, Int.reduceAdd, Int.reduceSub, Int.reduceMul, Int.reduceNeg, N, e1, e2, e3, e5, e8]
  refine new_any fun b12 hb12 => ?_
  have N := And.intro N (box_ne hb12 e1)
  have N := And.intro N (box_ne hb12 e2)
  have N := And.intro N (box_ne hb12 e3)
  have N := And.intro N (box_ne hb12 e5)
  generalize hβ_ : Heap.set _ b12 _ = β_
  have e12 := hit_set hβ_
  have e1 := keep_new hβ_ hb12 e1
  have e2 := keep_new hβ_ hb12 e2
  have e3 := keep_new hβ_ hb12 e3
  have e5 := keep_new hβ_ hb12 e5
  clear hβ_ hb12
  try simp only [go_sem, reduceIte, Nat.reduceEqDiff, Nat.reduceAdd, Nat.reduceSub, Nat.reduceMul, Nat.reduceLT, Nat.reduceLeDiff, Nat.reducePow, Int.reduceToNat, Int.reduceLT, Int.reduceLE, Int.reduceEq, Int.reduceNe, Int.reduceAdd, Int.reduceSub, Int.reduceMul, Int.reduceNeg, N, e1, e2, e3, e5, e12]
  first | refine cK_vn (hd2 _) ?_ | refine cE_vn (hd2 _) ?_
  simp only [Pg.cells16, Pg.c16, Pg.nul, Pr.nul, Pr.op, Pr.id, Pr.lo, Pr.hi, Pr.set, Pr.text, Pr.kids, List.map_nil]
  try simp only [go_sem, reduceIte, Nat.reduceEqDiff, Nat.reduceAdd, Nat.reduceSub, Nat.reduceMul, Nat.reduceLT, Nat.reduceLeDiff, Nat.reducePow, Int.reduceToNat, Int.reduceLT, Int.reduceLE, Int.reduceEq, Int.reduceNe, Int.reduceAdd, Int.reduceSub, Int.reduceMul, Int.reduceNeg, N, e1, e2, e3, e5, e12]
  refine new_any fun b14 hb14 => ?_
  have N := And.intro N (box_ne hb14 e1)
  have N := And.intro N (box_ne hb14 e2)
  have N := And.intro N (box_ne hb14 e3)
  have N := And.intro N (box_ne hb14 e5)
  have N := And.intro N (box_ne hb14 e12)
  generalize hβ_ : Heap.set _ b14 _ = β_
  have e14 := hit_set hβ_
  have e1 := keep_new hβ_ hb14 e1
  have e2 := keep_new hβ_ hb14 e2
  have e3 := keep_new hβ_ hb14 e3
  have e5 := keep_new hβ_ hb14 e5
  have e12 := keep_new hβ_ hb14 e12
  clear hβ_ hb14
  try simp only [go_sem, reduceIte, Nat.reduceEqDiff, Nat.reduceAdd, Nat.reduceSub, Nat.reduceMul, Nat.reduceLT, Nat.reduceLeDiff, Nat.reducePow, Int.reduceToNat, Int.reduceLT, Int.reduceLE, Int.reduceEq, Int.reduceNe, Int.reduceAdd, Int.reduceSub, Int.reduceMul, Int.reduceNeg, N, e1, e2, e3, e5, e12]
  first | refine cK_vn (hd3 _) ?_ | refine cE_vn (hd3 _) ?_
  simp only [Pg.cells16, Pg.c16, Pg.nul, Pr.nul, Pr.op, Pr.id, Pr.lo, Pr.hi, Pr.set, Pr.text, Pr.kids, List.map_nil]
  try simp only [go_sem, reduceIte, Nat.reduceEqDiff, Nat.reduceAdd, Nat.reduceSub, Nat.reduceMul, Nat.reduceLT, Nat.reduceLeDiff, Nat.reducePow, Int.reduceToNat, Int.reduceLT, Int.reduceLE, Int.reduceEq, Int.reduceNe, Int.reduceAdd, Int.reduceSub, Int.reduceMul, Int.reduceNeg, N, e1, e2, e3, e5, e12]
  refine new_any fun b16 hb16 => ?_
  have N := And.intro N (box_ne hb16 e1)
  have N := And.intro N (box_ne hb16 e2)
  have N := And.intro N (box_ne hb16 e3)
  have N := And.intro N (box_ne hb16 e5)
  have N := And.intro N (box_ne hb16 e12)
  generalize hβ_ : Heap.set _ b16 _ = β_
  have e16 := hit_set hβ_
  have e1 := keep_new hβ_ hb16 e1
  have e2 := keep_new hβ_ hb16 e2
  have e3 := keep_new hβ_ hb16 e3
  have e5 := keep_new hβ_ hb16 e5
  have e12 := keep_new hβ_ hb16 e12
  clear hβ_ hb16
  try simp only [go_sem, reduceIte, Nat.reduceEqDiff, Nat.reduceAdd, Nat.reduceSub, Nat.reduceMul, Nat.reduceLT, Nat.reduceLeDiff, Nat.reducePow, Int.reduceToNat, Int.reduceLT, Int.reduceLE, Int.reduceEq, Int.reduceNe, Int.reduceAdd, Int.reduceSub, Int.reduceMul, Int.reduceNeg, N, e1, e2, e3, e5, e12]
  first | refine cK_lit he (by rfl) ?_ | refine cE_lit he (by rfl) ?_
  try simp only [go_sem, reduceIte, Nat.reduceEqDiff, Nat.reduceAdd, Nat.reduceSub, Nat.reduceMul, Nat.reduceLT, Nat.reduceLeDiff, Nat.reducePow, Int.reduceToNat, Int.reduceLT, Int.reduceLE, Int.reduceEq, Int.reduceNe, Int.reduceAdd, Int.reduceSub, Int.reduceMul, Int.reduceNeg, N, e1, e2, e3, e5, e12]
  first | refine cK_lit hs (by rfl) ?_ | refine cE_lit hs (by rfl) ?_
  try simp only [go_sem, reduceIte, Nat.reduceEqDiff, Nat.reduceAdd, Nat.reduceSub, Nat.reduceMul, Nat.reduceLT, Nat.reduceLeDiff, Nat.reducePow, Int.reduceToNat, Int.reduceLT, Int.reduceLE, Int.reduceEq, Int.reduceNe, Int.reduceAdd, Int.reduceSub, Int.reduceMul, Int.reduceNeg, N, e1, e2, e3, e5, e12, decide_true]
  first | refine cK_lit hs2 (by rfl) ?_ | refine cE_lit hs2 (by rfl) ?_
  try simp only [go_sem, reduceIte, Nat.reduceEqDiff, Nat.reduceAdd, Nat.reduceSub, Nat.reduceMul, Nat.reduceLT, Nat.reduceLeDiff, Nat.reducePow, Int.reduceToNat, Int.reduceLT, Int.reduceLE, Int.reduceEq, Int.reduceNe, Int.reduceAdd, Int.reduceSub, Int.reduceMul, Int.reduceNeg, N, e1, e2, e3, e5, e12, decide_true]
  refine ⟨by decide, by decide, finK_drop ⟨?_, rfl, rfl⟩⟩
  rw [decide_eq_true (by rfl)]
  rfl
end Go.Proofs.YtpblgfgcoamgmaaS
