/-
  Programs (fenlandref27): Decode.
  Conditions: the bytes are at most 1099511627776.
-/
import Derived.Test.YtpblgfgcoamgmaaTA
set_option linter.unusedVariables false
set_option linter.unusedSimpArgs false
namespace Go.Proofs.YtpblgfgcoamgmaaS
open Go Go.Proofs.YtpblgfgcoamgmaaV

variable {G : Heap}
attribute [local irreducible] VN VC VX VQ VY VW VTA VT0 VPP VP

theorem rwD_er (r : Rw) : (D.agg [D.sl .none (r.map clD)]).strip.er.er = D.agg [D.sl .none (r.map clD)] := by
  simp [D.er, D.er1, D.strip]
set_option maxHeartbeats 4000000 in
theorem gDecode_ok (b : List Nat) (hb : Byt b) (hbl : b.length ≤ 1099511627776) : VN P G 6 [.sl .none (bs b)] (.tup [.agg (gDec b).1.cells, .int .i64 (gDec b).2]) := by
  have hr := gPred_ok (G := G) b (0, 0) hb hbl
  obtain ⟨V, hV⟩ : ∃ V, gDec b = V := ⟨_, rfl⟩
  rw [hV]
  unfold gDec at hV
  generalize gPred b (0, 0) = r at hr hV
  unfold VN
  refine VC.ofc (fun | 9 => [(0, []), (1, [3]), (2, []), (3, []), (4, []), (5, []), (6, []), (7, [])] | 23 => [(0, []), (1, []), (2, []), (3, []), (4, [5]), (5, []), (6, [])] | 99999999 => [(0, [0, 2, 3, 4, 5, 6, 7, 8, 9, 31, 52, 87, 95])] | _ => []) [.cell 2 31, .tmp 3] mixed Try.func6 rfl rfl rfl rfl (by decide +kernel) (by simp) ?_
  have N := trivial
  try simp only [go_sem, reduceIte, Nat.reduceEqDiff, Nat.reduceAdd, Nat.reduceSub, Nat.reduceMul, Nat.reduceLT, Nat.reduceLeDiff, Nat.reducePow, Int.reduceToNat, Int.reduceLT, Int.reduceLE, Int.reduceEq, Int.reduceNe, Int.reduceAdd, Int.reduceSub, Int.reduceMul, Int.reduceNeg, ]
  intro b2
  generalize hβ : Heap.set Heap.nil b2 _ = β0
  have e2 := hit_set hβ
  clear hβ
  try simp only [go_sem, reduceIte, Nat.reduceEqDiff, Nat.reduceAdd, Nat.reduceSub, Nat.reduceMul, Nat.reduceLT, Nat.reduceLeDiff, Nat.reducePow, Int.reduceToNat, Int.reduceLT, Int.reduceLE, Int.reduceEq, Int.reduceNe, Int.reduceAdd, Int.reduceSub, Int.reduceMul, Int.reduceNeg, e2]
  refine new_any fun b4 hb4 => ?_
  have N := And.intro N (box_ne hb4 e2)
  generalize hβ_ : Heap.set _ b4 _ = β_
  have e4 := hit_set hβ_
  have e2 := keep_new hβ_ hb4 e2
  clear hβ_ hb4
  try simp only [go_sem, reduceIte, Nat.reduceEqDiff, Nat.reduceAdd, Nat.reduceSub, Nat.reduceMul, Nat.reduceLT, Nat.reduceLeDiff, Nat.reducePow, Int.reduceToNat, Int.reduceLT, Int.reduceLE, Int.reduceEq, Int.reduceNe, Int.reduceAdd, Int.reduceSub, Int.reduceMul, Int.reduceNeg, N, e2, e4]
  refine new_any fun b5 hb5 => ?_
  have N := And.intro N (box_ne hb5 e2)
  have N := And.intro N (box_ne hb5 e4)
  generalize hβ_ : Heap.set _ b5 _ = β_
  have e5 := hit_set hβ_
  have e2 := keep_new hβ_ hb5 e2
  have e4 := keep_new hβ_ hb5 e4
  clear hβ_ hb5
  try simp only [go_sem, reduceIte, Nat.reduceEqDiff, Nat.reduceAdd, Nat.reduceSub, Nat.reduceMul, Nat.reduceLT, Nat.reduceLeDiff, Nat.reducePow, Int.reduceToNat, Int.reduceLT, Int.reduceLE, Int.reduceEq, Int.reduceNe, Int.reduceAdd, Int.reduceSub, Int.reduceMul, Int.reduceNeg, N, e2, e4, e5]
  refine cK_vp hr e4 ?_
  generalize hβ_ : Heap.set _ b4 _ = β_
  have e2 := keep_ne hβ_ (by simp [N]) e2
  have e5 := keep_ne hβ_ (by simp [N]) e5
  have e4 := hit_set hβ_
  clear hβ_
  have hm := gPred_ok (G := G) b r.2 hb hbl
  dsimp only at hV
  generalize gPred b r.2 = m at hm hV
  try simp only [go_sem, reduceIte, Nat.reduceEqDiff, Nat.reduceAdd, Nat.reduceSub, Nat.reduceMul, Nat.reduceLT, Nat.reduceLeDiff, Nat.reducePow, Int.reduceToNat, Int.reduceLT, Int.reduceLE, Int.reduceEq, Int.reduceNe, Int.reduceAdd, Int.reduceSub, Int.reduceMul, Int.reduceNeg, N, e2, e4, e5]
  simp only [Pr.cells]
  try simp only [go_sem, reduceIte, Nat.reduceEqDiff, Nat.reduceAdd, Nat.reduceSub, Nat.reduceMul, Nat.reduceLT, Nat.reduceLeDiff, Nat.reducePow, Int.reduceToNat, Int.reduceLT, Int.reduceLE, Int.reduceEq, Int.reduceNe, Int.reduceAdd, Int.reduceSub, Int.reduceMul, Int.reduceNeg, N, e2, e4, e5]
  generalize hβ_ : Heap.set _ b5 _ = β_
  have e2 := keep_ne hβ_ (by simp [N]) e2
  have e4 := keep_ne hβ_ (by simp [N]) e4
  have e5 := hit_set hβ_
  clear hβ_
  refine cK_vp hm e4 ?_
  generalize hβ_ : Heap.set _ b4 _ = β_
  have e2 := keep_ne hβ_ (by simp [N]) e2
  have e5 := keep_ne hβ_ (by simp [N]) e5
  have e4 := hit_set hβ_
  clear hβ_
  have hn := gNum_ok (G := G) b 4096 (by omega) m.2 hb
  have hle := gNum_le (b := b) (lim := 4096) (s := m.2)
  generalize gNum b 4096 m.2 = n at hn hle hV
  try simp only [go_sem, reduceIte, Nat.reduceEqDiff, Nat.reduceAdd, Nat.reduceSub, Nat.reduceMul, Nat.reduceLT, Nat.reduceLeDiff, Nat.reducePow, Int.reduceToNat, Int.reduceLT, Int.reduceLE, Int.reduceEq, Int.reduceNe, Int.reduceAdd, Int.reduceSub, Int.reduceMul, Int.reduceNeg, N, e2, e4, e5]
  simp only [Pr.cells]
  try simp only [go_sem, reduceIte, Nat.reduceEqDiff, Nat.reduceAdd, Nat.reduceSub, Nat.reduceMul, Nat.reduceLT, Nat.reduceLeDiff, Nat.reducePow, Int.reduceToNat, Int.reduceLT, Int.reduceLE, Int.reduceEq, Int.reduceNe, Int.reduceAdd, Int.reduceSub, Int.reduceMul, Int.reduceNeg, N, e2, e4, e5]
  generalize hβ_ : Heap.set _ b5 _ = β_
  have e2 := keep_ne hβ_ (by simp [N]) e2
  have e4 := keep_ne hβ_ (by simp [N]) e4
  have e5 := hit_set hβ_
  clear hβ_
  try simp only [go_sem, reduceIte, Nat.reduceEqDiff, Nat.reduceAdd, Nat.reduceSub, Nat.reduceMul, Nat.reduceLT, Nat.reduceLeDiff, Nat.reducePow, Int.reduceToNat, Int.reduceLT, Int.reduceLE, Int.reduceEq, Int.reduceNe, Int.reduceAdd, Int.reduceSub, Int.reduceMul, Int.reduceNeg, N, e2, e4, e5]
  refine cK_vp hn e4 ?_
  generalize hβ_ : Heap.set _ b4 _ = β_
  have e2 := keep_ne hβ_ (by simp [N]) e2
  have e5 := keep_ne hβ_ (by simp [N]) e5
  have e4 := hit_set hβ_
  clear hβ_
  try simp only [go_sem, reduceIte, Nat.reduceEqDiff, Nat.reduceAdd, Nat.reduceSub, Nat.reduceMul, Nat.reduceLT, Nat.reduceLeDiff, Nat.reducePow, Int.reduceToNat, Int.reduceLT, Int.reduceLE, Int.reduceEq, Int.reduceNe, Int.reduceAdd, Int.reduceSub, Int.reduceMul, Int.reduceNeg, N, e2, e4, e5]
  refine vwq_loop (fun v => ∃ (j : Nat) (l : List Rw) (c : Sc) (t : Tk), j ≤ n.1 ∧ l.length = j ∧ gListF (gRow b) (n.1 - j) l c = gListF (gRow b) n.1 [] n.2 ∧ TW 1 t v.ω ∧ v.β b4 = some (scC .none b c) ∧ v.β b5 = some [.int .i64 r.1.op, .int .i64 r.1.id, .int .i64 r.1.lo, .int .i64 r.1.hi, .sl .none (r.1.set.map Vl.d), .str r.1.text, .sl .none (r.1.kids.map Pr.d), .int .i64 m.1.op, .int .i64 m.1.id, .int .i64 m.1.lo, .int .i64 m.1.hi, .sl .none (m.1.set.map Vl.d), .str m.1.text, .sl .none (m.1.kids.map Pr.d), .sl t (l.map rwD), .sl .full []] ∧ (∃ x2, v.β b2 = some x2 ∧ x2.length = 16 ∧ isObj x2 = false) ∧ v.σ 0 = .sl .none (bs b) ∧ v.σ 2 = .pb b2 0 ∧ v.σ 4 = .pb b4 0 ∧ v.σ 5 = .pb b5 0 ∧ v.σ 6 = .int .i64 n.1 ∧ v.σ 7 = .int .i64 j) (fun v => n.1 - (ival (v.σ 7)).toNat) ⟨0, [], _, .full, by omega, rfl, rfl, TW.full 1, e4, e5, ⟨_, e2, rfl, rfl⟩, rfl, rfl, rfl, rfl, rfl, rfl⟩ ?_
  clear e4 e5 e2
  rintro σ β ω ⟨j, l, c, t, hj, hl, hL, hw, e4, e5, ⟨x2, e2, l2, o2⟩, q0, q2, q4, q5, q6, q7⟩
  dsimp only at hw e4 e5 e2 q0 q2 q4 q5 q6 q7
  have hto := hw.ok
  have htg := hw.gone
  by_cases g : j < n.1 ∧ c.2 = 0
  · have g1 : ((j : Int) < n.1) = True := eq_true (by omega)
    have g2 := g.2
    have wj := wrap_i64 (x := (j : Int) + 1) (by omega) (by omega)
    obtain ⟨n', hn'⟩ : ∃ n', n.1 - j = n' + 1 := ⟨n.1 - j - 1, by omega⟩
    rw [hn', gListF, if_pos g.2] at hL
    have hi := gRow_ok (G := G) b c hb hbl
    generalize gRow b c = i at hi hL
    try simp only [go_sem, reduceIte, Nat.reduceEqDiff, Nat.reduceAdd, Nat.reduceSub, Nat.reduceMul, Nat.reduceLT, Nat.reduceLeDiff, Nat.reducePow, Int.reduceToNat, Int.reduceLT, Int.reduceLE, Int.reduceEq, Int.reduceNe, Int.reduceAdd, Int.reduceSub, Int.reduceMul, Int.reduceNeg, q0, q2, q4, q5, q6, q7, g1, e4, scC, g2, e5]
    refine cE_vp hi e4 (by simp [rdAdd, N]) ?_
    generalize hβ_ : Heap.set _ b4 _ = β_
    have e2 := keep_ne hβ_ (by simp [N]) e2
    have e5 := keep_ne hβ_ (by simp [N]) e5
    have e4 := hit_set hβ_
    clear hβ_
    try simp only [go_sem, reduceIte, Nat.reduceEqDiff, Nat.reduceAdd, Nat.reduceSub, Nat.reduceMul, Nat.reduceLT, Nat.reduceLeDiff, Nat.reducePow, Int.reduceToNat, Int.reduceLT, Int.reduceLE, Int.reduceEq, Int.reduceNe, Int.reduceAdd, Int.reduceSub, Int.reduceMul, Int.reduceNeg, N, q0, q2, q4, q5, q6, q7, e5, hto, htg, wj]
    refine ⟨⟨trivial, rfl, rfl⟩, ⟨rfl, rfl⟩, fun z hz => ?_, by simp only [List.length_map]; omega, fun t' _ => ⟨by simp [rdAdd], ⟨j + 1, l ++ [i.1], i.2, .live t' 1, by omega, by simp [hl], ?_, TW.live 1 t', ?_⟩, by omega⟩⟩
    · obtain ⟨z, _, rfl⟩ := List.mem_map.1 hz
      rfl
    · rw [show n.1 - (j + 1) = n' by omega]; exact hL
    · simp [Heap.set, N, e4, e2, rwD, l2, o2]
      exact ⟨rfl, rwD_er i.1⟩
  · have hz : gListF (gRow b) n.1 [] n.2 = (l, c) := by
      rw [← hL]
      by_cases h1 : j < n.1
      · obtain ⟨n', hn'⟩ : ∃ n', n.1 - j = n' + 1 := ⟨n.1 - j - 1, by omega⟩
        rw [hn', gListF, if_neg (fun h => g ⟨h1, h⟩)]
      · rw [show n.1 - j = 0 by omega, gListF]
    rw [hz] at hV
    clear hL hz
    have hk := gNum_ok (G := G) b 16 (by omega) c hb
    have hkle := gNum_le (b := b) (lim := 16) (s := c)
    dsimp only at hV
    generalize gNum b 16 c = k at hk hkle hV
    have g12 : (((j : Int) < n.1) = True ∧ (c.2 = 0) = False) ∨ ((j : Int) < n.1) = False := by
      by_cases h1 : j < n.1
      · exact .inl ⟨eq_true (by omega), eq_false fun h => g ⟨h1, h⟩⟩
      · exact .inr (eq_false (by omega))
    rcases g12 with ⟨g1, g2⟩ | g1
    case' inl => try simp only [go_sem, reduceIte, Nat.reduceEqDiff, Nat.reduceAdd, Nat.reduceSub, Nat.reduceMul, Nat.reduceLT, Nat.reduceLeDiff, Nat.reducePow, Int.reduceToNat, Int.reduceLT, Int.reduceLE, Int.reduceEq, Int.reduceNe, Int.reduceAdd, Int.reduceSub, Int.reduceMul, Int.reduceNeg, q0, q2, q4, q5, q6, q7, g1, e4, scC, g2, e5]
    case' inr => try simp only [go_sem, reduceIte, Nat.reduceEqDiff, Nat.reduceAdd, Nat.reduceSub, Nat.reduceMul, Nat.reduceLT, Nat.reduceLeDiff, Nat.reducePow, Int.reduceToNat, Int.reduceLT, Int.reduceLE, Int.reduceEq, Int.reduceNe, Int.reduceAdd, Int.reduceSub, Int.reduceMul, Int.reduceNeg, q0, q2, q4, q5, q6, q7, g1, e4, e5]
    all_goals refine cK_vp hk e4 ?_
    all_goals
      generalize hβ_ : Heap.set _ b4 _ = β_
      have e2 := keep_ne hβ_ (by simp [N]) e2
      have e5 := keep_ne hβ_ (by simp [N]) e5
      have e4 := hit_set hβ_
      clear hβ_
      try simp only [go_sem, reduceIte, Nat.reduceEqDiff, Nat.reduceAdd, Nat.reduceSub, Nat.reduceMul, Nat.reduceLT, Nat.reduceLeDiff, Nat.reducePow, Int.reduceToNat, Int.reduceLT, Int.reduceLE, Int.reduceEq, Int.reduceNe, Int.reduceAdd, Int.reduceSub, Int.reduceMul, Int.reduceNeg, N, q0, q2, q4, q5, q6, q7, e5]
      clear hw hto htg q6 q7 hj hl
      refine vwq_loop (fun v => ∃ (j : Nat) (gs : List Gu) (s : Sc) (u : Tk), j ≤ k.1 ∧ gs.length = j ∧ gListF (gGd b) (k.1 - j) gs s = gListF (gGd b) k.1 [] k.2 ∧ tokOk 10 v.ω u ∧ v.β b4 = some (scC .none b s) ∧ v.β b5 = some [.int .i64 r.1.op, .int .i64 r.1.id, .int .i64 r.1.lo, .int .i64 r.1.hi, .sl .none (r.1.set.map Vl.d), .str r.1.text, .sl .none (r.1.kids.map Pr.d), .int .i64 m.1.op, .int .i64 m.1.id, .int .i64 m.1.lo, .int .i64 m.1.hi, .sl .none (m.1.set.map Vl.d), .str m.1.text, .sl .none (m.1.kids.map Pr.d), .sl t (l.map rwD), .sl u (gs.map guD)] ∧ (∃ x2, v.β b2 = some x2 ∧ x2.length = 16 ∧ isObj x2 = false) ∧ v.σ 0 = .sl .none (bs b) ∧ v.σ 2 = .pb b2 0 ∧ v.σ 4 = .pb b4 0 ∧ v.σ 5 = .pb b5 0 ∧ v.σ 6 = .int .i64 k.1 ∧ v.σ 8 = .int .i64 j) (fun v => k.1 - (ival (v.σ 8)).toNat) ⟨0, [], _, .full, by omega, rfl, rfl, trivial, e4, e5, ⟨_, e2, l2, o2⟩, rfl, rfl, rfl, rfl, rfl, rfl⟩ ?_
      clear e4 e5 e2 l2 o2
      rintro σ β ω ⟨j, gs, s, u, hj, hl, hL, hw, e4, e5, ⟨x2, e2, l2, o2⟩, q0, q2, q4, q5, q6, q8⟩
      dsimp only at hw e4 e5 e2 q0 q2 q4 q5 q6 q8
      have hto := eq_true hw
      by_cases g : j < k.1 ∧ s.2 = 0
      · have g1 : ((j : Int) < k.1) = True := eq_true (by omega)
        have g2 := g.2
        have wj := wrap_i64 (x := (j : Int) + 1) (by omega) (by omega)
        obtain ⟨n', hn'⟩ : ∃ n', k.1 - j = n' + 1 := ⟨k.1 - j - 1, by omega⟩
        rw [hn', gListF, if_pos g.2] at hL
        unfold gGd at hL
        have h1 := gPred_ok (G := G) b s hb hbl
        generalize gPred b s = y1 at h1 hL
        have h2 := gId_ok (G := G) b 0 y1.2 hb
        generalize gId b 0 y1.2 = y2 at h2 hL
        have h3 := gSig_ok (G := G) b y2.2 hb
        generalize nxS b y2.2 = y3 at h3 hL
        have h4 := gSig_ok (G := G) b y3.2 hb
        generalize nxS b y3.2 = y4 at h4 hL
        try simp only [go_sem, reduceIte, Nat.reduceEqDiff, Nat.reduceAdd, Nat.reduceSub, Nat.reduceMul, Nat.reduceLT, Nat.reduceLeDiff, Nat.reducePow, Int.reduceToNat, Int.reduceLT, Int.reduceLE, Int.reduceEq, Int.reduceNe, Int.reduceAdd, Int.reduceSub, Int.reduceMul, Int.reduceNeg, q0, q2, q4, q5, q6, q8, g1, e4, scC, g2, e5]
        refine new_any fun b9 hb9 => ?_
        have N := And.intro N (box_ne hb9 e2)
        have N := And.intro N (box_ne hb9 e4)
        have N := And.intro N (box_ne hb9 e5)
        generalize hβ_ : Heap.set _ b9 _ = β_
        have e9 := hit_set hβ_
        have e2 := keep_new hβ_ hb9 e2
        have e4 := keep_new hβ_ hb9 e4
        have e5 := keep_new hβ_ hb9 e5
        clear hβ_ hb9
        try simp only [go_sem, reduceIte, Nat.reduceEqDiff, Nat.reduceAdd, Nat.reduceSub, Nat.reduceMul, Nat.reduceLT, Nat.reduceLeDiff, Nat.reducePow, Int.reduceToNat, Int.reduceLT, Int.reduceLE, Int.reduceEq, Int.reduceNe, Int.reduceAdd, Int.reduceSub, Int.reduceMul, Int.reduceNeg, N, q0, q2, q4, q5, q6, q8, e4, e5, e9]
        refine cK_vp h1 e4 ?_
        generalize hβ_ : Heap.set _ b4 _ = β_
        have e2 := keep_ne hβ_ (by simp [N]) e2
        have e5 := keep_ne hβ_ (by simp [N]) e5
        have e9 := keep_ne hβ_ (by simp [N]) e9
        have e4 := hit_set hβ_
        clear hβ_
        try simp only [go_sem, reduceIte, Nat.reduceEqDiff, Nat.reduceAdd, Nat.reduceSub, Nat.reduceMul, Nat.reduceLT, Nat.reduceLeDiff, Nat.reducePow, Int.reduceToNat, Int.reduceLT, Int.reduceLE, Int.reduceEq, Int.reduceNe, Int.reduceAdd, Int.reduceSub, Int.reduceMul, Int.reduceNeg, N, q0, q2, q4, q5, q6, q8, e4, e5, e9]
        simp only [Pr.cells]
        try simp only [go_sem, reduceIte, Nat.reduceEqDiff, Nat.reduceAdd, Nat.reduceSub, Nat.reduceMul, Nat.reduceLT, Nat.reduceLeDiff, Nat.reducePow, Int.reduceToNat, Int.reduceLT, Int.reduceLE, Int.reduceEq, Int.reduceNe, Int.reduceAdd, Int.reduceSub, Int.reduceMul, Int.reduceNeg, N, e9]
        generalize hβ_ : Heap.set _ b9 _ = β_
        have e2 := keep_ne hβ_ (by simp [N]) e2
        have e4 := keep_ne hβ_ (by simp [N]) e4
        have e5 := keep_ne hβ_ (by simp [N]) e5
        have e9 := hit_set hβ_
        clear hβ_
        refine cK_vp h2 e4 ?_
        generalize hβ_ : Heap.set _ b4 _ = β_
        have e2 := keep_ne hβ_ (by simp [N]) e2
        have e5 := keep_ne hβ_ (by simp [N]) e5
        have e9 := keep_ne hβ_ (by simp [N]) e9
        have e4 := hit_set hβ_
        clear hβ_
        try simp only [go_sem, reduceIte, Nat.reduceEqDiff, Nat.reduceAdd, Nat.reduceSub, Nat.reduceMul, Nat.reduceLT, Nat.reduceLeDiff, Nat.reducePow, Int.reduceToNat, Int.reduceLT, Int.reduceLE, Int.reduceEq, Int.reduceNe, Int.reduceAdd, Int.reduceSub, Int.reduceMul, Int.reduceNeg, N, q0, q2, q4, q5, q6, q8, e4, e5, e9]
        generalize hβ_ : Heap.set _ b9 _ = β_
        have e2 := keep_ne hβ_ (by simp [N]) e2
        have e4 := keep_ne hβ_ (by simp [N]) e4
        have e5 := keep_ne hβ_ (by simp [N]) e5
        have e9 := hit_set hβ_
        clear hβ_
        refine cK_vp h3 e4 ?_
        generalize hβ_ : Heap.set _ b4 _ = β_
        have e2 := keep_ne hβ_ (by simp [N]) e2
        have e5 := keep_ne hβ_ (by simp [N]) e5
        have e9 := keep_ne hβ_ (by simp [N]) e9
        have e4 := hit_set hβ_
        clear hβ_
        try simp only [go_sem, reduceIte, Nat.reduceEqDiff, Nat.reduceAdd, Nat.reduceSub, Nat.reduceMul, Nat.reduceLT, Nat.reduceLeDiff, Nat.reducePow, Int.reduceToNat, Int.reduceLT, Int.reduceLE, Int.reduceEq, Int.reduceNe, Int.reduceAdd, Int.reduceSub, Int.reduceMul, Int.reduceNeg, N, q0, q2, q4, q5, q6, q8, e4, e5, e9]
        generalize hβ_ : Heap.set _ b9 _ = β_
        have e2 := keep_ne hβ_ (by simp [N]) e2
        have e4 := keep_ne hβ_ (by simp [N]) e4
        have e5 := keep_ne hβ_ (by simp [N]) e5
        have e9 := hit_set hβ_
        clear hβ_
        refine cK_vp h4 e4 ?_
        generalize hβ_ : Heap.set _ b4 _ = β_
        have e2 := keep_ne hβ_ (by simp [N]) e2
        have e5 := keep_ne hβ_ (by simp [N]) e5
        have e9 := keep_ne hβ_ (by simp [N]) e9
        have e4 := hit_set hβ_
        clear hβ_
        try simp only [go_sem, reduceIte, Nat.reduceEqDiff, Nat.reduceAdd, Nat.reduceSub, Nat.reduceMul, Nat.reduceLT, Nat.reduceLeDiff, Nat.reducePow, Int.reduceToNat, Int.reduceLT, Int.reduceLE, Int.reduceEq, Int.reduceNe, Int.reduceAdd, Int.reduceSub, Int.reduceMul, Int.reduceNeg, N, q0, q2, q4, q5, q6, q8, e4, e5, e9, hto, wj]
        refine ⟨fun z hz => ?_, by simp only [List.length_map]; omega, fun t' _ => ⟨⟨j + 1, gs ++ [(y1.1, (y2.1 : Int), y3.1, y4.1)], y4.2, .live t' 10, by omega, by simp [hl], ?_, ⟨by simp, rfl⟩, ?_⟩, by omega⟩⟩
        · obtain ⟨z, _, rfl⟩ := List.mem_map.1 hz
          rfl
        · rw [show k.1 - (j + 1) = n' by omega]; exact hL
        · simp [Heap.set, N, e4, e2, guD, l2, o2, Pr.cells, scC]
      · have hz2 : gListF (gGd b) k.1 [] k.2 = (gs, s) := by
          rw [← hL]
          by_cases h1 : j < k.1
          · obtain ⟨n', hn'⟩ : ∃ n', k.1 - j = n' + 1 := ⟨k.1 - j - 1, by omega⟩
            rw [hn', gListF, if_neg (fun h => g ⟨h1, h⟩)]
          · rw [show k.1 - j = 0 by omega, gListF]
        rw [hz2] at hV
        clear hL hz2
        dsimp only at hV
        have el : (bs b).length = b.length := bs_length b
        by_cases k1 : s.2 = 0
        · rw [if_neg (fun h => h k1)] at hV
          have g3 : ((j : Int) < k.1) = False := eq_false (fun h => g ⟨by omega, k1⟩)
          by_cases k2 : s.1 = b.length
          · rw [if_neg (fun h => h k2)] at hV
            subst hV
            try simp only [go_sem, reduceIte, Nat.reduceEqDiff, Nat.reduceAdd, Nat.reduceSub, Nat.reduceMul, Nat.reduceLT, Nat.reduceLeDiff, Nat.reducePow, Int.reduceToNat, Int.reduceLT, Int.reduceLE, Int.reduceEq, Int.reduceNe, Int.reduceAdd, Int.reduceSub, Int.reduceMul, Int.reduceNeg, q0, q2, q4, q5, q6, q8, g3, e4, e5, e2, scC, k1, k2, el, ne_eq, o2, l2]
            exact finK_drop ⟨by simp [D.er, D.er1, Pg.cells, Pr.cells], rfl, rfl⟩
          · rw [if_pos k2] at hV
            subst hV
            try simp only [go_sem, reduceIte, Nat.reduceEqDiff, Nat.reduceAdd, Nat.reduceSub, Nat.reduceMul, Nat.reduceLT, Nat.reduceLeDiff, Nat.reducePow, Int.reduceToNat, Int.reduceLT, Int.reduceLE, Int.reduceEq, Int.reduceNe, Int.reduceAdd, Int.reduceSub, Int.reduceMul, Int.reduceNeg, N, q0, q2, q4, q5, q6, q8, g3, e4, e5, e2, scC, k1, k2, el, ne_eq, o2, l2]
            exact ⟨by simp [rdAdd, N], finK_drop ⟨rfl, rfl, rfl⟩⟩
        · rw [if_pos k1] at hV
          subst hV
          have g4 : (((j : Int) < k.1) = True) ∨ (((j : Int) < k.1) = False) := by
            by_cases h1 : (j : Int) < k.1
            · exact .inl (eq_true h1)
            · exact .inr (eq_false h1)
          rcases g4 with g4 | g4
          all_goals
            try simp only [go_sem, reduceIte, Nat.reduceEqDiff, Nat.reduceAdd, Nat.reduceSub, Nat.reduceMul, Nat.reduceLT, Nat.reduceLeDiff, Nat.reducePow, Int.reduceToNat, Int.reduceLT, Int.reduceLE, Int.reduceEq, Int.reduceNe, Int.reduceAdd, Int.reduceSub, Int.reduceMul, Int.reduceNeg, q0, q2, q4, q5, q6, q8, g4, e4, e5, e2, scC, k1, el, ne_eq, o2, l2]
            exact ⟨by simp [rdAdd, N], finK_drop ⟨rfl, rfl, rfl⟩⟩
end Go.Proofs.YtpblgfgcoamgmaaS
