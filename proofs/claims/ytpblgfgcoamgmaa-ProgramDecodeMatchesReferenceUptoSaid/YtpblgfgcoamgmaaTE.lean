/-
  Programs: Encode (package program).
  Conditions: the encoding is at most 2^38 bytes.
-/
import Derived.Test.YtpblgfgcoamgmaaTP
import Derived.Test.YtpblgfgcoamgmaaTR
set_option linter.unusedVariables false
set_option linter.unusedSimpArgs false
namespace Go.Proofs.YtpblgfgcoamgmaaS
open Go Go.Proofs.YtpblgfgcoamgmaaV

variable {G : Heap}
attribute [local irreducible] VN VC VX VQ VY VW VTA VT0 VPP VP

theorem flat_take_le {α β : Type} (e : α → List β) (l : List α) (j : Nat) : ((l.take j).flatMap e).length ≤ (l.flatMap e).length := by
  have h : l.flatMap e = (l.take j).flatMap e ++ (l.drop j).flatMap e := by rw [← List.flatMap_append, List.take_append_drop]
  rw [h, List.length_append]; omega
theorem flat_snoc {α β : Type} (e : α → List β) {l : List α} {j : Nat} {x : α} (h : l[j]? = some x) : (l.take (j + 1)).flatMap e = (l.take j).flatMap e ++ e x := by
  obtain ⟨h1, h2⟩ := List.getElem?_eq_some_iff.1 h
  rw [List.take_succ_eq_append_getElem h1, List.flatMap_append, h2]; simp
theorem flat_mem_le {α β : Type} (e : α → List β) {l : List α} {x : α} (h : x ∈ l) : (e x).length ≤ (l.flatMap e).length := by
  induction l with
  | nil => cases h
  | cons a l ih =>
    simp only [List.flatMap_cons, List.length_append]
    rcases List.mem_cons.1 h with rfl | h
    · omega
    · have := ih h; omega
theorem encH_pos (q : Pr) : 0 < (encH q).length := by unfold encH; simp
theorem subs_le_enc (p : Pr) : (subs p).length ≤ (encP p).length := by
  unfold encP
  generalize subs p = l
  induction l with
  | nil => simp
  | cons a l ih =>
    have := encH_pos a
    simp only [List.flatMap_cons, List.length_append, List.length_cons]; omega
theorem pEnc (tk : Tk) (b : List Nat) (p : Pr) (hp : PrE p) (hb : b.length ≤ 2^40) (hl : (encP p).length ≤ 4000000) : VN P G 30 [.sl tk (bs b), .agg p.cells] (.sl .none (bs (b ++ encP p))) := by
  have h := (pEncode_ta (G := G) tk b p hb (Nat.le_trans (subs_le_enc p) hl) hp.pi).vn
  rw [if_pos hp.well] at h
  exact h
theorem RwE_mem : ∀ {r : Rw} {last : Int} {c : Cl}, RwE last r → c ∈ r → last < c.1 ∧ c.1 ≤ 1073741824 ∧ c.2.null = false ∧ I64' c.2.n ∧ c.2.s.size ≤ 200
  | [], _, _, _, h => by cases h
  | a :: r, last, c, h, hc => by
    obtain ⟨h1, h2, h3, h4, h5, h6⟩ := h
    rcases List.mem_cons.1 hc with rfl | hc
    · exact ⟨h1, h2, h3, h4, h5⟩
    · obtain ⟨g1, g2⟩ := RwE_mem h6 hc
      exact ⟨by omega, g2⟩
set_option maxHeartbeats 4000000 in
theorem pEncode27_ok (g : Pg) (hg : PgE g) (hT : (encPg g).length ≤ 4000000) : VN P G 10 [.agg g.cells] (.sl .none (bs (encPg g))) := by
  have hT1 : (encP g.1).length + ((encP g.2.1).length + ((enc g.2.2.1.length).length + ((g.2.2.1.flatMap encRw).length + ((enc g.2.2.2.length).length + (g.2.2.2.flatMap encGu).length)))) ≤ 4000000 := by
    simpa only [encPg, List.length_append] using hT
  have h1 : VN P G 30 [.sl .full [], .agg g.1.cells] (.sl .none (bs (encP g.1))) := pEnc (G := G) .full [] g.1 hg.read (by simp) (by omega)
  have h2 := pEnc (G := G) .none (encP g.1) g.2.1 hg.remove (by omega) (by omega)
  have h3 := U_vn' (G := G) .none (encP g.1 ++ encP g.2.1) g.2.2.1.length _ (by simp only [List.length_append]; omega) (by have := hg.nAdd; omega) rfl
  simp only [Pr.cells] at h1 h2
  unfold VN
  refine VC.ofs (fun | 1 => [(0, []), (1, []), (3, []), (4, [2]), (6, []), (7, [2, 5]), (8, []), (9, []), (2, []), (5, []), (10, []), (11, [])] | 9 => [(0, []), (1, []), (2, []), (3, []), (5, []), (6, []), (7, [4]), (9, []), (10, []), (11, [4, 8]), (4, []), (8, []), (12, []), (13, [])] | 16 => [(0, []), (1, []), (2, []), (4, []), (5, [3]), (6, []), (8, []), (9, [3, 7]), (11, []), (12, [3, 7, 10]), (3, []), (7, []), (10, []), (13, []), (14, [])] | 99999999 => [(0, [0, 1, 2, 3, 5, 7, 9, 22, 23, 24, 25, 35, 36, 37, 38, 63, 64, 65, 66])] | _ => []) [2] mixed Try.func10 rfl rfl rfl rfl (by decide +kernel) (by simp) ?_
  have er : (g.2.2.1.map rwD).length = g.2.2.1.length := by simp
  have eg : (g.2.2.2.map guD).length = g.2.2.2.length := by simp
  have hr4 := hg.nAdd
  have hg4 := hg.nGd
  have m1 : (g.2.2.1.length : Int) % 18446744073709551616 = g.2.2.1.length := by omega
  have m2 : (g.2.2.2.length : Int) % 18446744073709551616 = g.2.2.2.length := by omega
  simp only [Pg.cells16, Pg.c16]
  simp only [go_sem, reduceIte, Nat.reduceEqDiff, Nat.reduceAdd, Nat.reduceSub, Nat.reduceMul, Nat.reduceLT, Nat.reduceLeDiff, Nat.reducePow, Int.reduceToNat, Int.reduceLT, Int.reduceLE, Int.reduceEq, Int.reduceNe, Int.reduceAdd, Int.reduceSub, Int.reduceMul, Int.reduceNeg]
  intro b1
  generalize hβ : Heap.set Heap.nil b1 _ = β0
  have e1 := hit_set hβ
  clear hβ
  have N := trivial
  try simp only [go_sem, reduceIte, Nat.reduceEqDiff, Nat.reduceAdd, Nat.reduceSub, Nat.reduceMul, Nat.reduceLT, Nat.reduceLeDiff, Nat.reducePow, Int.reduceToNat, Int.reduceLT, Int.reduceLE, Int.reduceEq, Int.reduceNe, Int.reduceAdd, Int.reduceSub, Int.reduceMul, Int.reduceNeg, e1]
  repeat' (first | simp only [go_sem, reduceIte, Nat.reduceEqDiff, Nat.reduceAdd, Nat.reduceSub, Nat.reduceMul, Nat.reduceLT, Nat.reduceLeDiff, Nat.reducePow, Int.reduceToNat, Int.reduceLT, Int.reduceLE, Int.reduceEq, Int.reduceNe, Int.reduceAdd, Int.reduceSub, Int.reduceMul, Int.reduceNeg, e1, er, m1] | refine cK_vn h1 ?_ | refine cK_vn h2 ?_ | refine cK_vn h3 ?_ | refine cE_vn h1 ?_ | refine cE_vn h2 ?_ | refine cE_vn h3 ?_ | fail)
  obtain ⟨A, hA⟩ : ∃ A, encP g.1 ++ encP g.2.1 ++ enc g.2.2.1.length = A := ⟨_, rfl⟩
  have lA : A.length = (encP g.1).length + ((encP g.2.1).length + (enc g.2.2.1.length).length) := by rw [← hA]; simp only [List.length_append]; omega
  rw [hA]
  clear h1 h2 h3
  refine vwq_loop (fun v => ∃ (j : Nat), j ≤ g.2.2.1.length ∧ v.σ 1 = .pb b1 0 ∧ v.σ 3 = .sl .none (bs (A ++ (g.2.2.1.take j).flatMap encRw)) ∧ v.σ 22 = .sl .none (g.2.2.1.map rwD) ∧ v.σ 23 = .int .i64 g.2.2.1.length ∧ v.σ 24 = .int .i64 j ∧ v.β b1 = some g.c16 ∧ v.ω = []) (fun v => g.2.2.1.length - (ival (v.σ 24)).toNat) ⟨0, by omega, rfl, by rw [List.take_zero, List.flatMap_nil, List.append_nil]; rfl, rfl, rfl, rfl, e1, rfl⟩ ?_
  clear e1
  rintro σ β ω ⟨j, hj, q1, q3, q22, q23, q24, e1, rfl⟩
  dsimp only [Pg.c16] at q1 q3 q22 q23 q24 e1
  obtain ⟨B, hB⟩ : ∃ B, A ++ (g.2.2.1.take j).flatMap encRw = B := ⟨_, rfl⟩
  have lB : B.length = A.length + ((g.2.2.1.take j).flatMap encRw).length := by rw [← hB, List.length_append]
  rw [hB] at q3
  try simp only [go_sem, reduceIte, Nat.reduceEqDiff, Nat.reduceAdd, Nat.reduceSub, Nat.reduceMul, Nat.reduceLT, Nat.reduceLeDiff, Nat.reducePow, Int.reduceToNat, Int.reduceLT, Int.reduceLE, Int.reduceEq, Int.reduceNe, Int.reduceAdd, Int.reduceSub, Int.reduceMul, Int.reduceNeg, q1, q3, q22, q23, q24, e1]
  refine cd_dec (fun kj => ?_) (fun kj => ?_)
  · have k' := eq_true kj
    obtain ⟨x, hx, ex⟩ := Rw_at (l := g.2.2.1) (j := j) (by omega)
    have c1 : ((0 : Int) ≤ j) = True := eq_true (by omega)
    have wj := wrap_i64 (x := (j : Int) + 1) (by omega) (by omega)
    have hs := flat_snoc encRw hx
    have hle := flat_take_le encRw g.2.2.1 (j + 1)
    rw [hs, List.length_append] at hle
    rw [show encRw x = enc x.length ++ x.flatMap encCl from rfl, List.length_append] at hle
    obtain ⟨hx1, hx2⟩ := hg.add x (List.mem_of_getElem? hx)
    have exl : (x.map clD).length = x.length := by simp
    have mx : (x.length : Int) % 18446744073709551616 = x.length := by omega
    have h4 := U_vn' (G := G) .none B x.length _ (by omega) (by omega) rfl
    try simp only [go_sem, reduceIte, Nat.reduceEqDiff, Nat.reduceAdd, Nat.reduceSub, Nat.reduceMul, Nat.reduceLT, Nat.reduceLeDiff, Nat.reducePow, Int.reduceToNat, Int.reduceLT, Int.reduceLE, Int.reduceEq, Int.reduceNe, Int.reduceAdd, Int.reduceSub, Int.reduceMul, Int.reduceNeg, q1, q3, q22, q23, q24, e1, ex, er, c1, k', wj]
    refine new_any fun b5 hb5 => ?_
    have N := And.intro N (box_ne hb5 e1)
    generalize hβ_ : Heap.set _ b5 _ = β_
    have e5 := hit_set hβ_
    have e1 := keep_new hβ_ hb5 e1
    clear hβ_ hb5
    try simp only [go_sem, reduceIte, Nat.reduceEqDiff, Nat.reduceAdd, Nat.reduceSub, Nat.reduceMul, Nat.reduceLT, Nat.reduceLeDiff, Nat.reducePow, Int.reduceToNat, Int.reduceLT, Int.reduceLE, Int.reduceEq, Int.reduceNe, Int.reduceAdd, Int.reduceSub, Int.reduceMul, Int.reduceNeg, N, q1, q3, q22, q23, q24, e1, e5, exl, mx]
    (first | refine cK_vn (h4) ?_ | refine cE_vn (h4) ?_)
    try simp only [go_sem, reduceIte, Nat.reduceEqDiff, Nat.reduceAdd, Nat.reduceSub, Nat.reduceMul, Nat.reduceLT, Nat.reduceLeDiff, Nat.reducePow, Int.reduceToNat, Int.reduceLT, Int.reduceLE, Int.reduceEq, Int.reduceNe, Int.reduceAdd, Int.reduceSub, Int.reduceMul, Int.reduceNeg, N, q1, q3, q22, q23, q24, e1, e5, exl, mx]
    obtain ⟨C, hC⟩ : ∃ C, B ++ enc x.length = C := ⟨_, rfl⟩
    have lC : C.length = B.length + (enc x.length).length := by rw [← hC, List.length_append]
    rw [hC]
    refine vwq_loop (fun v => ∃ (i : Nat), i ≤ x.length ∧ v.σ 1 = .pb b1 0 ∧ v.σ 3 = .sl .none (bs (C ++ (x.take i).flatMap encCl)) ∧ v.σ 22 = .sl .none (g.2.2.1.map rwD) ∧ v.σ 23 = .int .i64 g.2.2.1.length ∧ v.σ 24 = .int .i64 j ∧ v.σ 35 = .sl .none (x.map clD) ∧ v.σ 36 = .int .i64 x.length ∧ v.σ 37 = .int .i64 i ∧ v.β b1 = some g.c16 ∧ v.ω = []) (fun v => x.length - (ival (v.σ 37)).toNat) ⟨0, by omega, rfl, by rw [List.take_zero, List.flatMap_nil, List.append_nil]; rfl, rfl, rfl, rfl, rfl, rfl, rfl, e1, rfl⟩ ?_
    clear e1 e5 q1 q3 q22 q23 q24
    rintro σ β ω ⟨i, hi, q1, q3, q22, q23, q24, q35, q36, q37, e1, rfl⟩
    dsimp only [Pg.c16] at q1 q3 q22 q23 q24 q35 q36 q37 e1
    obtain ⟨D', hD⟩ : ∃ D', C ++ (x.take i).flatMap encCl = D' := ⟨_, rfl⟩
    have lD : D'.length = C.length + ((x.take i).flatMap encCl).length := by rw [← hD, List.length_append]
    rw [hD] at q3
    try simp only [go_sem, reduceIte, Nat.reduceEqDiff, Nat.reduceAdd, Nat.reduceSub, Nat.reduceMul, Nat.reduceLT, Nat.reduceLeDiff, Nat.reducePow, Int.reduceToNat, Int.reduceLT, Int.reduceLE, Int.reduceEq, Int.reduceNe, Int.reduceAdd, Int.reduceSub, Int.reduceMul, Int.reduceNeg, q1, q3, q22, q23, q24, q35, q36, q37, e1]
    refine cd_dec (fun ki => ?_) (fun ki => ?_)
    · have k'' := eq_true ki
      obtain ⟨y, hy, ey⟩ := Cl_at (l := x) (j := i) (by omega)
      have c2 : ((0 : Int) ≤ i) = True := eq_true (by omega)
      have wi := wrap_i64 (x := (i : Int) + 1) (by omega) (by omega)
      have hs2 := flat_snoc encCl hy
      have hle2 := flat_take_le encCl x (i + 1)
      rw [hs2, List.length_append] at hle2
      have ecl : (encCl y).length = (enc y.1.toNat).length + ((enc (zig y.2.n)).length + ((enc y.2.s.size).length + y.2.s.size)) := by
        simp only [encCl, List.length_append, sb_length]
      obtain ⟨y1, y2, y3, y4, y5⟩ := RwE_mem hx2 (List.mem_of_getElem? hy)
      have my : y.1 % 18446744073709551616 = ((y.1.toNat : Nat) : Int) := by omega
      have h5 := U_vn' (G := G) .none D' y.1.toNat _ (by omega) (by omega) rfl
      have h6 := S_vn' (G := G) .none (D' ++ enc y.1.toNat) y.2.n _ y4 (by simp only [List.length_append]; omega) rfl
      have h7 := Text_vn' (G := G) .none (D' ++ enc y.1.toNat ++ enc (zig y.2.n)) y.2.s _ (by simp only [List.length_append]; omega) rfl
      try simp only [go_sem, reduceIte, Nat.reduceEqDiff, Nat.reduceAdd, Nat.reduceSub, Nat.reduceMul, Nat.reduceLT, Nat.reduceLeDiff, Nat.reducePow, Int.reduceToNat, Int.reduceLT, Int.reduceLE, Int.reduceEq, Int.reduceNe, Int.reduceAdd, Int.reduceSub, Int.reduceMul, Int.reduceNeg, q1, q3, q22, q23, q24, q35, q36, q37, e1, exl, ey, c2, k'', wi]
      refine new_any fun b7 hb7 => ?_
      have N := And.intro N (box_ne hb7 e1)
      generalize hβ_ : Heap.set _ b7 _ = β_
      have e7 := hit_set hβ_
      have e1 := keep_new hβ_ hb7 e1
      clear hβ_ hb7
      repeat' (first | simp only [go_sem, reduceIte, Nat.reduceEqDiff, Nat.reduceAdd, Nat.reduceSub, Nat.reduceMul, Nat.reduceLT, Nat.reduceLeDiff, Nat.reducePow, Int.reduceToNat, Int.reduceLT, Int.reduceLE, Int.reduceEq, Int.reduceNe, Int.reduceAdd, Int.reduceSub, Int.reduceMul, Int.reduceNeg, N, q1, q3, q22, q23, q24, q35, q36, q37, e1, e7, exl, ey, c2, k'', wi, my] | refine cK_vn h5 ?_ | refine cK_vn h6 ?_ | refine cK_vn h7 ?_ | refine cE_vn h5 ?_ | refine cE_vn h6 ?_ | refine cE_vn h7 ?_ | fail)
      exact ⟨⟨i + 1, by omega, by rw [hs2, ← hD, encCl]; simp only [List.append_assoc], rfl, rfl⟩, by omega⟩
    · try simp only [go_sem, reduceIte, Nat.reduceEqDiff, Nat.reduceAdd, Nat.reduceSub, Nat.reduceMul, Nat.reduceLT, Nat.reduceLeDiff, Nat.reducePow, Int.reduceToNat, Int.reduceLT, Int.reduceLE, Int.reduceEq, Int.reduceNe, Int.reduceAdd, Int.reduceSub, Int.reduceMul, Int.reduceNeg, q1, q3, q22, q23, q24, q35, q36, q37, e1, wj]
      obtain rfl : i = x.length := by omega
      exact ⟨⟨j + 1, by omega, by rw [hs, ← hD, ← hC, ← hB, List.take_length, encRw]; simp only [List.append_assoc], rfl, rfl⟩, by omega⟩
  · obtain rfl : j = g.2.2.1.length := by omega
    rw [List.take_length] at hB lB
    have h8 := U_vn' (G := G) .none B g.2.2.2.length _ (by omega) (by omega) rfl
    try simp only [go_sem, reduceIte, Nat.reduceEqDiff, Nat.reduceAdd, Nat.reduceSub, Nat.reduceMul, Nat.reduceLT, Nat.reduceLeDiff, Nat.reducePow, Int.reduceToNat, Int.reduceLT, Int.reduceLE, Int.reduceEq, Int.reduceNe, Int.reduceAdd, Int.reduceSub, Int.reduceMul, Int.reduceNeg, q1, q3, q22, q23, q24, e1, eg, m2]
    (first | refine cK_vn (h8) ?_ | refine cE_vn (h8) ?_)
    obtain ⟨E, hE⟩ : ∃ E, B ++ enc g.2.2.2.length = E := ⟨_, rfl⟩
    have lE : E.length = B.length + (enc g.2.2.2.length).length := by rw [← hE, List.length_append]
    rw [hE]
    try simp only [go_sem, reduceIte, Nat.reduceEqDiff, Nat.reduceAdd, Nat.reduceSub, Nat.reduceMul, Nat.reduceLT, Nat.reduceLeDiff, Nat.reducePow, Int.reduceToNat, Int.reduceLT, Int.reduceLE, Int.reduceEq, Int.reduceNe, Int.reduceAdd, Int.reduceSub, Int.reduceMul, Int.reduceNeg, q1, q3, q22, q23, q24, e1, eg, m2]
    refine vwq_loop (fun v => ∃ (i : Nat), i ≤ g.2.2.2.length ∧ v.σ 1 = .pb b1 0 ∧ v.σ 3 = .sl .none (bs (E ++ (g.2.2.2.take i).flatMap encGu)) ∧ v.σ 63 = .sl .none (g.2.2.2.map guD) ∧ v.σ 64 = .int .i64 g.2.2.2.length ∧ v.σ 65 = .int .i64 i ∧ v.β b1 = some g.c16 ∧ v.ω = []) (fun v => g.2.2.2.length - (ival (v.σ 65)).toNat) ⟨0, by omega, rfl, by rw [List.take_zero, List.flatMap_nil, List.append_nil]; rfl, rfl, rfl, rfl, e1, rfl⟩ ?_
    clear e1 q1 q3 q22 q23 q24
    rintro σ β ω ⟨i, hi, q1, q3, q63, q64, q65, e1, rfl⟩
    dsimp only [Pg.c16] at q1 q3 q63 q64 q65 e1
    obtain ⟨F, hF⟩ : ∃ F, E ++ (g.2.2.2.take i).flatMap encGu = F := ⟨_, rfl⟩
    have lF : F.length = E.length + ((g.2.2.2.take i).flatMap encGu).length := by rw [← hF, List.length_append]
    rw [hF] at q3
    try simp only [go_sem, reduceIte, Nat.reduceEqDiff, Nat.reduceAdd, Nat.reduceSub, Nat.reduceMul, Nat.reduceLT, Nat.reduceLeDiff, Nat.reducePow, Int.reduceToNat, Int.reduceLT, Int.reduceLE, Int.reduceEq, Int.reduceNe, Int.reduceAdd, Int.reduceSub, Int.reduceMul, Int.reduceNeg, q1, q3, q63, q64, q65, e1]
    refine cd_dec (fun ki => ?_) (fun ki => ?_)
    · have k'' := eq_true ki
      obtain ⟨y, hy, ey⟩ := Gu_at (l := g.2.2.2) (j := i) (by omega)
      have hgy := hg.gd y (List.mem_of_getElem? hy)
      have c2 : ((0 : Int) ≤ i) = True := eq_true (by omega)
      have wi := wrap_i64 (x := (i : Int) + 1) (by omega) (by omega)
      have hs2 := flat_snoc encGu hy
      have hle2 := flat_take_le encGu g.2.2.2 (i + 1)
      rw [hs2, List.length_append] at hle2
      have egl : (encGu y).length = (encP y.1).length + ((enc y.2.1.toNat).length + ((enc (zig y.2.2.1)).length + (enc (zig y.2.2.2)).length)) := by
        simp only [encGu, List.length_append]
      have hid := hgy.id
      have my : y.2.1 % 18446744073709551616 = ((y.2.1.toNat : Nat) : Int) := by omega
      have h5 := pEnc (G := G) .none F y.1 hgy.pr (by omega) (by omega)
      have h6 := U_vn' (G := G) .none (F ++ encP y.1) y.2.1.toNat _ (by simp only [List.length_append]; omega) (by omega) rfl
      have h7 := S_vn' (G := G) .none (F ++ encP y.1 ++ enc y.2.1.toNat) y.2.2.1 _ hgy.lo (by simp only [List.length_append]; omega) rfl
      have h9 := S_vn' (G := G) .none (F ++ encP y.1 ++ enc y.2.1.toNat ++ enc (zig y.2.2.1)) y.2.2.2 _ hgy.hi (by simp only [List.length_append]; omega) rfl
      simp only [Pr.cells] at h5
      try simp only [go_sem, reduceIte, Nat.reduceEqDiff, Nat.reduceAdd, Nat.reduceSub, Nat.reduceMul, Nat.reduceLT, Nat.reduceLeDiff, Nat.reducePow, Int.reduceToNat, Int.reduceLT, Int.reduceLE, Int.reduceEq, Int.reduceNe, Int.reduceAdd, Int.reduceSub, Int.reduceMul, Int.reduceNeg, q1, q3, q63, q64, q65, e1, eg, ey, c2, k'', wi]
      refine new_any fun b9 hb9 => ?_
      have N := And.intro N (box_ne hb9 e1)
      generalize hβ_ : Heap.set _ b9 _ = β_
      have e9 := hit_set hβ_
      have e1 := keep_new hβ_ hb9 e1
      clear hβ_ hb9
      repeat' (first | simp only [go_sem, reduceIte, Nat.reduceEqDiff, Nat.reduceAdd, Nat.reduceSub, Nat.reduceMul, Nat.reduceLT, Nat.reduceLeDiff, Nat.reducePow, Int.reduceToNat, Int.reduceLT, Int.reduceLE, Int.reduceEq, Int.reduceNe, Int.reduceAdd, Int.reduceSub, Int.reduceMul, Int.reduceNeg, N, q1, q3, q63, q64, q65, e1, e9, eg, ey, c2, k'', wi, my] | refine cK_vn h5 ?_ | refine cK_vn h6 ?_ | refine cK_vn h7 ?_ | refine cK_vn h9 ?_ | refine cE_vn h5 ?_ | refine cE_vn h6 ?_ | refine cE_vn h7 ?_ | refine cE_vn h9 ?_ | fail)
      exact ⟨⟨i + 1, by omega, by rw [hs2, ← hF, encGu]; simp only [List.append_assoc], rfl, rfl⟩, by omega⟩
    · obtain rfl : i = g.2.2.2.length := by omega
      rw [List.take_length] at hF
      try simp only [go_sem, reduceIte, Nat.reduceEqDiff, Nat.reduceAdd, Nat.reduceSub, Nat.reduceMul, Nat.reduceLT, Nat.reduceLeDiff, Nat.reducePow, Int.reduceToNat, Int.reduceLT, Int.reduceLE, Int.reduceEq, Int.reduceNe, Int.reduceAdd, Int.reduceSub, Int.reduceMul, Int.reduceNeg, q1, q3, q63, q64, q65, e1]
      refine finK_drop ⟨?_, rfl, rfl⟩
      rw [← hF, ← hE, ← hB, ← hA, encPg]
      simp only [List.append_assoc]
      rfl
end Go.Proofs.YtpblgfgcoamgmaaS
