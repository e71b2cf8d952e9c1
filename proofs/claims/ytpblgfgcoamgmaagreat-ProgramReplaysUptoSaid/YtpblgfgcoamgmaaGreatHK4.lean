/-
  Programs: the law ProgramReplays.
  Conditions: none beyond the case's own.
-/
import Derived.Test.YtpblgfgcoamgmaaGreatG8
set_option linter.unusedVariables false
set_option linter.unusedSimpArgs false
namespace Go.Proofs.YtpblgfgcoamgmaaGreatS
open Go Go.Proofs.YtpblgfgcoamgmaaGreatV

variable {G : Heap}
attribute [local irreducible] VN VC VX VQ VY VW VTA VT0 VPP VP

theorem replayT_app (t : Tbl) (a b : List Pg) : replayT t (a ++ b) = replayT (replayT t a) b := by simp [replayT]
theorem replayT_cut (t : Tbl) (l : List Pg) (n : Nat) : replayT (replayT t (l.take n)) (l.drop n) = replayT t l := by rw [← replayT_app, List.take_append_drop]
theorem replayT_mid (t : Tbl) (l : List Pg) {n i : Nat} (h : n ≤ i) : replayT (replayT t (l.take n)) ((l.drop n).take (i - n)) = replayT t (l.take i) := by
  rw [← replayT_app]
  congr 1
  have : l.take i = (l.take i).take n ++ (l.take i).drop n := by rw [List.take_append_drop]
  rw [this, List.take_take, Nat.min_eq_left h, List.drop_take]
theorem int_at {l : List Int} {j : Nat} {v : Int} (h : l[j]? = some v) : (l.map iD).getD j .any = .int .i64 v := by
  have hj := (List.getElem?_eq_some_iff.1 h).1
  rw [iD_at hj, List.getD_eq_getElem?_getD, h]; rfl
theorem runF_bad {g : Pg} {t : Tbl} (h : (runF g t).2 ≠ 0) : (runF g t).1 = Tbl.nul := by
  unfold runF at h ⊢
  split
  · rfl
  rename_i k; rw [if_neg k] at h
  split
  · rfl
  · rename_i k2; rw [if_neg k2] at h; exact absurd rfl h
theorem TMd.tb {fs : List Fd} {t : Tbl} (h : TMd fs 30 t) : TB t := by
  have h1 := h.next; have h2 := h.len
  exact ⟨⟨by omega, by omega⟩, by omega⟩
theorem k4_facts {i n L A B m : Nat} (hin : ¬ i < n) (hi : i < L) (hL : L ≤ 6) (q2 : A = n) (q3 : B = L - n) (hm : i - n = m) :
    ((i : Int) < n) = False ∧ ((n : Int) ≤ i) = True ∧ ((i : Int) < A) = False ∧ ((m : Int) < B) = True ∧ ((0 : Int) ≤ m) = True ∧ (i : Int) - n = m ∧ IntKind.i64.wrap (m : Int) = m :=
  ⟨eq_false (by omega), eq_true (by omega), eq_false (by omega), eq_true (by omega), eq_true (by omega), by omega, wrap_i64 (by omega) (by omega)⟩
set_option maxRecDepth 100000 in
set_option maxHeartbeats 16000000 in
theorem replays27_ok (c : Cs) (hc : CsOk c) (at_ : Nat) (hat : at_ < 256) : VN P G 6 [.agg c.cells, .int .u8 at_] (.bool true) := by
  have hs := law27_sanity_ok (G := G)
  have hm := made27_ok (G := G) c hc
  simp only [Cs.cells] at hm ⊢
  unfold VN
  refine VC.ofs (fun | 5 => [(0, []), (1, []), (2, []), (3, []), (4, [8]), (5, []), (6, []), (7, []), (8, []), (9, []), (10, [])] | 6 => [(0, []), (1, []), (2, []), (3, []), (4, [8]), (5, []), (6, []), (7, []), (8, []), (9, []), (10, [])] | 13 => [(0, []), (1, []), (2, []), (3, []), (4, []), (5, [9]), (6, []), (7, []), (8, []), (9, []), (10, []), (11, [])] | 99999999 => [(0, [0, 1, 2, 4, 5, 7, 8, 9, 10, 11, 12, 13, 14, 15, 16, 17, 18, 19, 80, 85, 140, 142])] | _ => []) [4] mixed Tryz.func6 rfl rfl rfl rfl (by decide +kernel) (by simp) ?_
  simp only [go_sem, reduceIte, Nat.reduceEqDiff, Nat.reduceAdd, Nat.reduceSub, Nat.reduceMul, Nat.reduceLT, Nat.reduceLeDiff, Nat.reducePow, Int.reduceToNat, Int.reduceLT, Int.reduceLE, Int.reduceEq, Int.reduceNe, Int.reduceAdd, Int.reduceSub, Int.reduceMul, Int.reduceNeg]
  intro b1
  generalize hβ : Heap.set Heap.nil b1 _ = β0
  have e1 := hit_set hβ
  clear hβ
  have N := trivial
  try simp only [go_sem, reduceIte, Nat.reduceEqDiff, Nat.reduceAdd, Nat.reduceSub, Nat.reduceMul, Nat.reduceLT, Nat.reduceLeDiff, Nat.reducePow, Int.reduceToNat, Int.reduceLT, Int.reduceLE, Int.reduceEq, Int.reduceNe, Int.reduceAdd, Int.reduceSub, Int.reduceMul, Int.reduceNeg, e1]
  (first | refine cK_vn (hs) ?_ | refine cE_vn (hs) ?_)
  try simp only [go_sem, reduceIte, Nat.reduceEqDiff, Nat.reduceAdd, Nat.reduceSub, Nat.reduceMul, Nat.reduceLT, Nat.reduceLeDiff, Nat.reducePow, Int.reduceToNat, Int.reduceLT, Int.reduceLE, Int.reduceEq, Int.reduceNe, Int.reduceAdd, Int.reduceSub, Int.reduceMul, Int.reduceNeg, e1]
  refine cK_vx hm ?_
  rintro _ ⟨fs, nx, t, l, rfl, hso, ht, hl6, hg⟩
  have el : (l.map pgD).length = l.length := by simp
  have htb := ht.tb
  have wa := wrap_i64 (x := (at_ : Int)) (by omega) (by omega)
  have wl := wrap_i64 (x := (l.length : Int) + 1) (by omega) (by omega)
  have hn0 : ((l.length : Int) + 1 ≠ 0) = True := eq_true (by omega)
  have hn1 : ((l.length : Int) + 1 = 0) = False := eq_false (by omega)
  obtain ⟨n, hn⟩ : ∃ n : Nat, (at_ : Int).tmod ((l.length : Int) + 1) = n ∧ n ≤ l.length := by
    have h1 := Int.tmod_nonneg ((l.length : Int) + 1) (show (0 : Int) ≤ at_ by omega)
    have h2 := Int.tmod_lt_of_pos (at_ : Int) (show (0 : Int) < (l.length : Int) + 1 by omega)
    exact ⟨((at_ : Int).tmod ((l.length : Int) + 1)).toNat, by omega, by omega⟩
  obtain ⟨hn, hnl⟩ := hn
  simp only [Tbl.cells]
  try simp only [go_sem, reduceIte, Nat.reduceEqDiff, Nat.reduceAdd, Nat.reduceSub, Nat.reduceMul, Nat.reduceLT, Nat.reduceLeDiff, Nat.reducePow, Int.reduceToNat, Int.reduceLT, Int.reduceLE, Int.reduceEq, Int.reduceNe, Int.reduceAdd, Int.reduceSub, Int.reduceMul, Int.reduceNeg, e1]
  refine new_any fun b6 hb6 => ?_
  have N := And.intro N (box_ne hb6 e1)
  generalize hβ_ : Heap.set _ b6 _ = β_
  have e6 := hit_set hβ_
  have e1 := keep_new hβ_ hb6 e1
  clear hβ_ hb6
  try simp only [go_sem, reduceIte, Nat.reduceEqDiff, Nat.reduceAdd, Nat.reduceSub, Nat.reduceMul, Nat.reduceLT, Nat.reduceLeDiff, Nat.reducePow, Int.reduceToNat, Int.reduceLT, Int.reduceLE, Int.reduceEq, Int.reduceNe, Int.reduceAdd, Int.reduceSub, Int.reduceMul, Int.reduceNeg, N, e1, e6]
  refine new_any fun b7 hb7 => ?_
  have N := And.intro N (box_ne hb7 e1)
  have N := And.intro N (box_ne hb7 e6)
  try simp only [go_sem, reduceIte, Nat.reduceEqDiff, Nat.reduceAdd, Nat.reduceSub, Nat.reduceMul, Nat.reduceLT, Nat.reduceLeDiff, Nat.reducePow, Int.reduceToNat, Int.reduceLT, Int.reduceLE, Int.reduceEq, Int.reduceNe, Int.reduceAdd, Int.reduceSub, Int.reduceMul, Int.reduceNeg, N, e1, e6, el, wa, wl, hn0, hn]
  generalize hβ_ : Heap.set _ b7 _ = β_
  have e7 := hit_set hβ_
  clear hβ_ hb7 e6
  have hr1 := Replay_ok (G := G) l t htb (by omega)
  have hr2 := Replay_ok (G := G) (l.take n) t htb (by rw [List.length_take]; omega)
  have htu := replayT_TB (l := l.take n) htb
  have hr3 := Replay_ok (G := G) (l.drop n) (replayT t (l.take n)) htu (by rw [List.length_drop]; omega)
  rw [replayT_cut] at hr3
  have s1 := SameTable_refl (G := G) (replayT t l)
  have q1 := replayE_len t l
  have q2 := replayE_len t (l.take n)
  have q3 := replayE_len (replayT t (l.take n)) (l.drop n)
  rw [List.length_take, Nat.min_eq_left hnl] at q2
  rw [List.length_drop] at q3
  have at1 : ∀ {i g}, l[i]? = some g → (replayE t l)[i]? = some (runF g (replayT t (l.take i))).2 := replayE_at
  have at2 : ∀ {i g}, i < n → l[i]? = some g → (replayE t (l.take n))[i]? = some (runF g (replayT t (l.take i))).2 := fun {i g} hi h => by
    have := replayE_at (t := t) (l := l.take n) (j := i) (g := g) (by rw [List.getElem?_take, if_pos hi]; exact h)
    rwa [List.take_take, Nat.min_eq_left (by omega)] at this
  have at3 : ∀ {i g}, n ≤ i → l[i]? = some g → (replayE (replayT t (l.take n)) (l.drop n))[i - n]? = some (runF g (replayT t (l.take i))).2 := fun {i g} hi h => by
    have := replayE_at (t := replayT t (l.take n)) (l := l.drop n) (j := i - n) (g := g) (by rw [List.getElem?_drop, show n + (i - n) = i by omega]; exact h)
    rwa [replayT_mid t l hi] at this
  have hfull : replayT t (l.take l.length) = replayT t l := by rw [List.take_length]
  generalize replayE t l = E1 at hr1 q1 at1
  generalize replayE t (l.take n) = E2 at hr2 q2 at2
  generalize replayE (replayT t (l.take n)) (l.drop n) = E3 at hr3 q3 at3
  generalize replayT t (l.take n) = U at hr2 hr3 htu
  obtain ⟨W, hW⟩ : ∃ W, replayT t l = W := ⟨_, rfl⟩
  rw [hW] at hr1 hr3 s1 hfull
  have l1 : (E1.map iD).length = E1.length := by simp
  have l2 : (E2.map iD).length = E2.length := by simp
  have l3 : (E3.map iD).length = E3.length := by simp
  simp only [Tbl.cells] at hr1 hr2 hr3 s1
  (first | refine cK_vn (hr1) ?_ | refine cE_vn (hr1) ?_)
  try simp only [go_sem, reduceIte, Nat.reduceEqDiff, Nat.reduceAdd, Nat.reduceSub, Nat.reduceMul, Nat.reduceLT, Nat.reduceLeDiff, Nat.reducePow, Int.reduceToNat, Int.reduceLT, Int.reduceLE, Int.reduceEq, Int.reduceNe, Int.reduceAdd, Int.reduceSub, Int.reduceMul, Int.reduceNeg, N, e7, el, l1, l2, l3]
  refine new_any fun b10 hb10 => ?_
  have N := And.intro N (box_ne hb10 e7)
  generalize hβ_ : Heap.set _ b10 _ = β_
  have e10 := hit_set hβ_
  have e7 := keep_new hβ_ hb10 e7
  clear hβ_ hb10
  try simp only [go_sem, reduceIte, Nat.reduceEqDiff, Nat.reduceAdd, Nat.reduceSub, Nat.reduceMul, Nat.reduceLT, Nat.reduceLeDiff, Nat.reducePow, Int.reduceToNat, Int.reduceLT, Int.reduceLE, Int.reduceEq, Int.reduceNe, Int.reduceAdd, Int.reduceSub, Int.reduceMul, Int.reduceNeg, N, e7, e10, el, l1, l2, l3]
  have pg16 : ∀ x ∈ l.map pgD, x.cells.length = 16 := fun x hx => by
    obtain ⟨y, _, rfl⟩ := List.mem_map.1 hx; rfl
  have hT : (l.map pgD).take n = (l.take n).map pgD := by simp
  have hD : ((l.map pgD).drop n).take (l.length - n) = (l.drop n).map pgD := by rw [← List.map_drop, List.take_of_length_le (by simp)]
  rw [hT]
  refine ⟨⟨by omega, by omega, pg16⟩, ?_⟩
  (first | refine cK_vn (hr2) ?_ | refine cE_vn (hr2) ?_)
  try simp only [go_sem, reduceIte, Nat.reduceEqDiff, Nat.reduceAdd, Nat.reduceSub, Nat.reduceMul, Nat.reduceLT, Nat.reduceLeDiff, Nat.reducePow, Int.reduceToNat, Int.reduceLT, Int.reduceLE, Int.reduceEq, Int.reduceNe, Int.reduceAdd, Int.reduceSub, Int.reduceMul, Int.reduceNeg, N, e7, e10, el, l1, l2, l3]
  refine new_any fun b12 hb12 => ?_
  have N := And.intro N (box_ne hb12 e7)
  have N := And.intro N (box_ne hb12 e10)
  generalize hβ_ : Heap.set _ b12 _ = β_
  have e12 := hit_set hβ_
  have e7 := keep_new hβ_ hb12 e7
  have e10 := keep_new hβ_ hb12 e10
  clear hβ_ hb12
  try simp only [go_sem, reduceIte, Nat.reduceEqDiff, Nat.reduceAdd, Nat.reduceSub, Nat.reduceMul, Nat.reduceLT, Nat.reduceLeDiff, Nat.reducePow, Int.reduceToNat, Int.reduceLT, Int.reduceLE, Int.reduceEq, Int.reduceNe, Int.reduceAdd, Int.reduceSub, Int.reduceMul, Int.reduceNeg, N, e7, e10, e12, el, l1, l2, l3]
  rw [hD]
  refine ⟨⟨by omega, by omega, by omega, pg16⟩, ?_⟩
  (first | refine cK_vn (hr3) ?_ | refine cE_vn (hr3) ?_)
  try simp only [go_sem, reduceIte, Nat.reduceEqDiff, Nat.reduceAdd, Nat.reduceSub, Nat.reduceMul, Nat.reduceLT, Nat.reduceLeDiff, Nat.reducePow, Int.reduceToNat, Int.reduceLT, Int.reduceLE, Int.reduceEq, Int.reduceNe, Int.reduceAdd, Int.reduceSub, Int.reduceMul, Int.reduceNeg, N, e7, e10, e12, el, l1, l2, l3]
  refine new_any fun b14 hb14 => ?_
  have N := And.intro N (box_ne hb14 e7)
  have N := And.intro N (box_ne hb14 e10)
  generalize hβ_ : Heap.set _ b14 _ = β_
  have e14 := hit_set hβ_
  have e7 := keep_new hβ_ hb14 e7
  have e10 := keep_new hβ_ hb14 e10
  clear hβ_ hb14
  have f1 : ((E1.length : Int) = l.length) = True := eq_true (by omega)
  have f2 : ((E2.length : Int) = n) = True := eq_true (by omega)
  have w3 := wrap_i64 (x := (l.length : Int) - n) (by omega) (by omega)
  have f3 : ((E3.length : Int) = (l.length : Int) - n) = True := eq_true (by omega)
  try simp only [go_sem, reduceIte, Nat.reduceEqDiff, Nat.reduceAdd, Nat.reduceSub, Nat.reduceMul, Nat.reduceLT, Nat.reduceLeDiff, Nat.reducePow, Int.reduceToNat, Int.reduceLT, Int.reduceLE, Int.reduceEq, Int.reduceNe, Int.reduceAdd, Int.reduceSub, Int.reduceMul, Int.reduceNeg, N, e7, e10, e14, el, l1, l2, l3, f1, f2, f3, w3, ne_eq, not_true_eq_false, decide_false]
  (first | refine cK_vn (s1) ?_ | refine cE_vn (s1) ?_)
  try simp only [go_sem, reduceIte, Nat.reduceEqDiff, Nat.reduceAdd, Nat.reduceSub, Nat.reduceMul, Nat.reduceLT, Nat.reduceLeDiff, Nat.reducePow, Int.reduceToNat, Int.reduceLT, Int.reduceLE, Int.reduceEq, Int.reduceNe, Int.reduceAdd, Int.reduceSub, Int.reduceMul, Int.reduceNeg, N, e7, e10, e14, el, l1, l2, l3, f1, f2, f3, w3, ne_eq, not_true_eq_false, decide_false]
  refine new_any fun b16 hb16 => ?_
  have N := And.intro N (box_ne hb16 e7)
  have N := And.intro N (box_ne hb16 e10)
  generalize hβ_ : Heap.set _ b16 _ = β_
  have e16 := hit_set hβ_
  have e7 := keep_new hβ_ hb16 e7
  have e10 := keep_new hβ_ hb16 e10
  clear hβ_ hb16
  try simp only [go_sem, reduceIte, Nat.reduceEqDiff, Nat.reduceAdd, Nat.reduceSub, Nat.reduceMul, Nat.reduceLT, Nat.reduceLeDiff, Nat.reducePow, Int.reduceToNat, Int.reduceLT, Int.reduceLE, Int.reduceEq, Int.reduceNe, Int.reduceAdd, Int.reduceSub, Int.reduceMul, Int.reduceNeg, N, e7, e10, e16]
  refine vwq_loop (fun v => ∃ (i : Nat), i ≤ l.length ∧ v.σ 5 = .bool true ∧ v.σ 8 = .sl .none (l.map pgD) ∧ v.σ 9 = .int .i64 n ∧ v.σ 10 = .pb b10 0 ∧ v.σ 11 = .sl .none (E1.map iD) ∧ v.σ 13 = .sl .none (E2.map iD) ∧ v.σ 15 = .sl .none (E3.map iD) ∧ v.σ 16 = .pb b16 0 ∧ v.σ 17 = .int .i64 i ∧ v.β b10 = some W.cells ∧ v.β b16 = some (replayT t (l.take i)).cells ∧ v.ω = []) (fun v => l.length - (ival (v.σ 17)).toNat) ⟨0, by omega, rfl, rfl, rfl, rfl, rfl, rfl, rfl, rfl, rfl, e10, e16, rfl⟩ ?_
  clear e1 e7 e10 e16
  rintro σ β ω ⟨i, hi, q5, q8, q9, q10, q11, q13, q15, q16, q17, e10, e16, rfl⟩
  dsimp only at q5 q8 q9 q10 q11 q13 q15 q16 q17 e10 e16
  have hV : TB (replayT t (l.take i)) := replayT_TB htb
  try simp only [go_sem, reduceIte, Nat.reduceEqDiff, Nat.reduceAdd, Nat.reduceSub, Nat.reduceMul, Nat.reduceLT, Nat.reduceLeDiff, Nat.reducePow, Int.reduceToNat, Int.reduceLT, Int.reduceLE, Int.reduceEq, Int.reduceNe, Int.reduceAdd, Int.reduceSub, Int.reduceMul, Int.reduceNeg, q5, q8, q9, q10, q11, q13, q15, q16, q17, e10, el]
  refine cd_dec (fun k => ?_) (fun k => ?_)
  · have k' := eq_true k
    obtain ⟨g, hgx, eg⟩ := Pg_at (l := l) (j := i) (by omega)
    have c1 : ((0 : Int) ≤ i) = True := eq_true (by omega)
    have wi := wrap_i64 (x := (i : Int) + 1) (by omega) (by omega)
    have hstep : replayT t (l.take (i + 1)) = stepT (replayT t (l.take i)) g := by rw [take_snoc' hgx, replayT_app]; rfl
    have a1 := int_at (at1 hgx)
    have a2 := fun h => int_at (at2 (i := i) h hgx)
    have a3 := fun h => int_at (at3 (i := i) h hgx)
    generalize replayT t (l.take i) = V at hV hstep a1 a2 a3 e16
    have hrun := Run_ok (G := G) g V hV.1 hV.2
    have hbad := runF_bad (g := g) (t := V)
    unfold stepT at hstep
    generalize runF g V = r at a1 a2 a3 hstep hrun hbad
    have g1 : ((i : Int) < E1.length) = True := eq_true (by omega)
    simp only [Tbl.cells, Pg.cells16, Pg.c16] at hrun e10 e16
    try simp only [go_sem, reduceIte, Nat.reduceEqDiff, Nat.reduceAdd, Nat.reduceSub, Nat.reduceMul, Nat.reduceLT, Nat.reduceLeDiff, Nat.reducePow, Int.reduceToNat, Int.reduceLT, Int.reduceLE, Int.reduceEq, Int.reduceNe, Int.reduceAdd, Int.reduceSub, Int.reduceMul, Int.reduceNeg, q5, q8, q9, q10, q11, q13, q15, q16, q17, e10, e16, el, eg, c1, k']
    (first | refine cK_vn (hrun) ?_ | refine cE_vn (hrun) ?_)
    try simp only [go_sem, reduceIte, Nat.reduceEqDiff, Nat.reduceAdd, Nat.reduceSub, Nat.reduceMul, Nat.reduceLT, Nat.reduceLeDiff, Nat.reducePow, Int.reduceToNat, Int.reduceLT, Int.reduceLE, Int.reduceEq, Int.reduceNe, Int.reduceAdd, Int.reduceSub, Int.reduceMul, Int.reduceNeg, q5, q8, q9, q10, q11, q13, q15, q16, q17, e10, e16, el, eg, c1, k']
    refine new_any fun b18 hb18 => ?_
    have N := And.intro N (box_ne hb18 e10)
    have N := And.intro N (box_ne hb18 e16)
    generalize hβ_ : Heap.set _ b18 _ = β_
    have e18 := hit_set hβ_
    have e10 := keep_new hβ_ hb18 e10
    have e16 := keep_new hβ_ hb18 e16
    clear hβ_ hb18
    have s0 := SameTable_refl (G := G) Tbl.nul
    have hiL : i < l.length := (List.getElem?_eq_some_iff.1 hgx).1
    by_cases h0 : r.2 = 0
    · have h0' := eq_true h0
      rw [if_pos h0] at hstep
      by_cases hin : i < n
      · have f1 : ((i : Int) < n) = True := eq_true (by omega)
        have f2 : ((n : Int) ≤ i) = False := eq_false (by omega)
        have f3 : ((i : Int) < E2.length) = True := eq_true (by omega)
        have b2 := a2 hin
        try simp only [go_sem, reduceIte, Nat.reduceEqDiff, Nat.reduceAdd, Nat.reduceSub, Nat.reduceMul, Nat.reduceLT, Nat.reduceLeDiff, Nat.reducePow, Int.reduceToNat, Int.reduceLT, Int.reduceLE, Int.reduceEq, Int.reduceNe, Int.reduceAdd, Int.reduceSub, Int.reduceMul, Int.reduceNeg, N, q5, q8, q9, q10, q11, q13, q15, q16, q17, e10, e16, e18, el, c1, l1, l2, l3, g1, a1, b2, f1, f2, f3, h0', ne_eq, not_true_eq_false, decide_false, decide_true, wi]
        exact ⟨⟨i + 1, by omega, rfl, rfl, by rw [hstep]; rfl⟩, by omega⟩
      · obtain ⟨m, hm⟩ : ∃ m, i - n = m := ⟨_, rfl⟩
        obtain ⟨f1, f2, g2, f3, f4, w5, w4⟩ := k4_facts hin hiL hl6 q2 q3 hm
        have b3 := a3 (Nat.le_of_not_lt hin)
        have b2 : (E2.map iD).getD i .any = .any := by rw [List.getD_eq_getElem?_getD, List.getElem?_eq_none (by rw [l2, q2]; exact Nat.le_of_not_lt hin)]; rfl
        rw [hm] at b3
        try simp only [go_sem, reduceIte, Nat.reduceEqDiff, Nat.reduceAdd, Nat.reduceSub, Nat.reduceMul, Nat.reduceLT, Nat.reduceLeDiff, Nat.reducePow, Int.reduceToNat, Int.reduceLT, Int.reduceLE, Int.reduceEq, Int.reduceNe, Int.reduceAdd, Int.reduceSub, Int.reduceMul, Int.reduceNeg, N, q5, q8, q9, q10, q11, q13, q15, q16, q17, e10, e16, e18, el, c1, l1, l2, l3, g1, a1, b2, g2, b3, f1, f2, w5, w4, f3, f4, h0', ne_eq, not_true_eq_false, decide_false, decide_true, wi]
        exact ⟨⟨i + 1, by omega, rfl, rfl, by rw [hstep]; rfl⟩, by omega⟩
    · have h0' := eq_false h0
      rw [if_neg h0] at hstep
      have hnul : r.1 = Tbl.nul := hbad h0
      clear hrun hbad
      obtain ⟨r1, r2⟩ := r
      dsimp only at *
      subst hnul
      by_cases hin : i < n
      · have f1 : ((i : Int) < n) = True := eq_true (by omega)
        have f2 : ((n : Int) ≤ i) = False := eq_false (by omega)
        have f3 : ((i : Int) < E2.length) = True := eq_true (by omega)
        have b2 := a2 hin
        try simp only [go_sem, reduceIte, Nat.reduceEqDiff, Nat.reduceAdd, Nat.reduceSub, Nat.reduceMul, Nat.reduceLT, Nat.reduceLeDiff, Nat.reducePow, Int.reduceToNat, Int.reduceLT, Int.reduceLE, Int.reduceEq, Int.reduceNe, Int.reduceAdd, Int.reduceSub, Int.reduceMul, Int.reduceNeg, N, q5, q8, q9, q10, q11, q13, q15, q16, q17, e10, e16, e18, el, c1, l1, l2, l3, g1, a1, b2, f1, f2, f3, h0', ne_eq, not_true_eq_false, not_false_eq_true, decide_false, decide_true, wi]
        first | refine cK_lit s0 (by rfl) ?_ | refine cE_lit s0 (by rfl) ?_
        try simp only [go_sem, reduceIte, Nat.reduceEqDiff, Nat.reduceAdd, Nat.reduceSub, Nat.reduceMul, Nat.reduceLT, Nat.reduceLeDiff, Nat.reducePow, Int.reduceToNat, Int.reduceLT, Int.reduceLE, Int.reduceEq, Int.reduceNe, Int.reduceAdd, Int.reduceSub, Int.reduceMul, Int.reduceNeg, N, q5, q8, q9, q10, q11, q13, q15, q16, q17, e10, e16, e18, el, c1, l1, l2, l3, g1, a1, b2, f1, f2, f3, h0', ne_eq, not_true_eq_false, not_false_eq_true, decide_false, decide_true, wi]
        exact ⟨⟨i + 1, by omega, rfl, rfl, by rw [hstep]; rfl⟩, by omega⟩
      · obtain ⟨m, hm⟩ : ∃ m, i - n = m := ⟨_, rfl⟩
        obtain ⟨f1, f2, g2, f3, f4, w5, w4⟩ := k4_facts hin hiL hl6 q2 q3 hm
        have b3 := a3 (Nat.le_of_not_lt hin)
        have b2 : (E2.map iD).getD i .any = .any := by rw [List.getD_eq_getElem?_getD, List.getElem?_eq_none (by rw [l2, q2]; exact Nat.le_of_not_lt hin)]; rfl
        rw [hm] at b3
        try simp only [go_sem, reduceIte, Nat.reduceEqDiff, Nat.reduceAdd, Nat.reduceSub, Nat.reduceMul, Nat.reduceLT, Nat.reduceLeDiff, Nat.reducePow, Int.reduceToNat, Int.reduceLT, Int.reduceLE, Int.reduceEq, Int.reduceNe, Int.reduceAdd, Int.reduceSub, Int.reduceMul, Int.reduceNeg, N, q5, q8, q9, q10, q11, q13, q15, q16, q17, e10, e16, e18, el, c1, l1, l2, l3, g1, a1, b2, g2, b3, f1, f2, w5, w4, f3, f4, h0', ne_eq, not_true_eq_false, not_false_eq_true, decide_false, decide_true, wi]
        first | refine cK_lit s0 (by rfl) ?_ | refine cE_lit s0 (by rfl) ?_
        try simp only [go_sem, reduceIte, Nat.reduceEqDiff, Nat.reduceAdd, Nat.reduceSub, Nat.reduceMul, Nat.reduceLT, Nat.reduceLeDiff, Nat.reducePow, Int.reduceToNat, Int.reduceLT, Int.reduceLE, Int.reduceEq, Int.reduceNe, Int.reduceAdd, Int.reduceSub, Int.reduceMul, Int.reduceNeg, N, q5, q8, q9, q10, q11, q13, q15, q16, q17, e10, e16, e18, el, c1, l1, l2, l3, g1, a1, b2, g2, b3, f1, f2, w5, w4, f3, f4, h0', ne_eq, not_true_eq_false, not_false_eq_true, decide_false, decide_true, wi]
        exact ⟨⟨i + 1, by omega, rfl, rfl, by rw [hstep]; rfl⟩, by omega⟩
  · obtain rfl : i = l.length := by omega
    rw [hfull] at e16
    simp only [Tbl.cells] at e10 e16
    try simp only [go_sem, reduceIte, Nat.reduceEqDiff, Nat.reduceAdd, Nat.reduceSub, Nat.reduceMul, Nat.reduceLT, Nat.reduceLeDiff, Nat.reducePow, Int.reduceToNat, Int.reduceLT, Int.reduceLE, Int.reduceEq, Int.reduceNe, Int.reduceAdd, Int.reduceSub, Int.reduceMul, Int.reduceNeg, q5, q8, q9, q10, q11, q13, q15, q16, q17, e10, e16]
    (first | refine cK_vn (s1) ?_ | refine cE_vn (s1) ?_)
    try simp only [go_sem, reduceIte, Nat.reduceEqDiff, Nat.reduceAdd, Nat.reduceSub, Nat.reduceMul, Nat.reduceLT, Nat.reduceLeDiff, Nat.reducePow, Int.reduceToNat, Int.reduceLT, Int.reduceLE, Int.reduceEq, Int.reduceNe, Int.reduceAdd, Int.reduceSub, Int.reduceMul, Int.reduceNeg, q5, q8, q9, q10, q11, q13, q15, q16, q17, e10, e16, decide_true]
    exact finK_drop ⟨rfl, rfl, rfl⟩
end Go.Proofs.YtpblgfgcoamgmaaGreatS
