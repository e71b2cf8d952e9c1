/-
  Predicates: what is encoded is decoded, and what is decoded is the encoding (fenlandlaw08.PredRoundTrip).
-/
import Derived.Test.YtbfkhepfgibonaaR2
import Derived.Test.YtbfkhepfgibonaaQE
import Derived.Test.YtbfkhepfgibonaaQ9
import Derived.Test.YtbfkhepfgibonaaJ2
set_option linter.unusedVariables false
set_option linter.unusedSimpArgs false
namespace Go.Proofs.YtbfkhepfgibonaaS
open Go Go.Proofs.YtbfkhepfgibonaaV

variable {G : Heap}
attribute [local irreducible] VN VC VX VQ VY VW VTA VT0

theorem encP_few (p : Pr) : (subs p).length ≤ (encP p).length := by
  unfold encP
  induction subs p with
  | nil => simp
  | cons q l ih => rw [List.flatMap_cons, List.length_append, List.length_cons, encH]; simp only [List.length_cons]; omega
theorem Byt_app {a b : List Nat} (h : Byt a) (g : Byt b) : Byt (a ++ b) := fun x hx => by
  rcases List.mem_append.1 hx with hx | hx
  · exact h x hx
  · exact g x hx
theorem enc_byt : ∀ (m n : Nat), n ≤ m → Byt (enc n)
  | m, n, h => by
    by_cases g : n < 128
    · rw [enc_small g]; intro x hx; rw [List.mem_singleton] at hx; omega
    · rw [enc_big (by omega)]
      intro x hx
      rcases List.mem_cons.1 hx with rfl | hx
      · omega
      · cases m with
        | zero => omega
        | succ m => exact enc_byt m (n / 128) (by omega) x hx
theorem sb_byt (s : ByteArray) : Byt (sb s) := fun x hx => by
  unfold sb at hx
  simp only [List.mem_map] at hx
  obtain ⟨y, _, rfl⟩ := hx
  exact y.toNat_lt
theorem encP_byt {q : Pr} {m : Nat} (h : Gd m q) : Byt (encP q) := fun x hx => by
  unfold encP at hx
  obtain ⟨s, hs, hx⟩ := List.mem_flatMap.1 hx
  obtain ⟨f1, _⟩ := (h.form s hs).op
  obtain ⟨_, f2⟩ := (h.form s hs).op
  have e : ∀ n, Byt (enc n) := fun n => enc_byt n n (Nat.le_refl _)
  rw [encH] at hx
  rcases List.mem_cons.1 hx with rfl | hx
  · omega
  rcases List.mem_append.1 hx with hx | hx
  · split at hx
    · exact e _ x hx
    · cases hx
  · split at hx
    · rcases List.mem_append.1 hx with hx | hx <;> exact e _ x hx
    split at hx
    · rcases List.mem_append.1 hx with hx | hx
      · exact e _ x hx
      · obtain ⟨v, _, hx⟩ := List.mem_flatMap.1 hx
        rw [encVl] at hx
        rcases List.mem_cons.1 hx with rfl | hx
        · unfold bit; split <;> omega
        · rcases List.mem_append.1 hx with hx | hx
          · rcases List.mem_append.1 hx with hx | hx <;> exact e _ x hx
          · exact sb_byt _ x hx
    split at hx
    · rcases List.mem_append.1 hx with hx | hx
      · exact e _ x hx
      · exact sb_byt _ x hx
    split at hx
    · exact e _ x hx
    · cases hx
set_option maxRecDepth 100000 in
set_option maxHeartbeats 8000000 in
theorem trip_ok (p : Pr) (c : PrOk p) (b : List Nat) (n : Nat) (hb : Byt b) (hn : n < 65536) : VN P G 6 [.agg p.cells, .sl .none (bs b), .int .u16 n] (.bool true) := by
  have hs := law08_sanity_ok (G := G)
  have hsm := Small_ok (G := G) p 300
  have hform : VX P G 16 [.agg p.cells, .int .i64 8] (isGd 8 (subs p).length) := Form_ok (G := G) 7 (by omega) p c.pi
  have hpf := c.few
  unfold VN
  refine VC.ofs (fun | 12 => [(0, []), (1, []), (2, []), (3, []), (5, []), (6, []), (7, []), (8, []), (9, []), (4, []), (10, []), (11, []), (12, [])] | 99999999 => [(0, [0, 1, 2, 3, 6, 7, 8, 9, 10, 11, 12, 13, 14, 15, 16, 17, 26, 73, 86])] | _ => []) [6] mixed Try.func6 rfl rfl rfl rfl (by decide +kernel) (by simp) ?_
  have eb : (bs b).length = b.length := bs_length b
  have hwn : IntKind.i64.wrap (n : Int) = n := wrap_i64 (by omega) (by omega)
  have hmn : (if (n : Int) < (b.length : Nat) then (n : Int) else (b.length : Nat)) = ((min b.length n : Nat) : Int) := by split <;> omega
  simp only [go_sem, reduceIte, Nat.reduceEqDiff, Nat.reduceAdd, Nat.reduceSub, Nat.reduceMul, Nat.reduceLT, Nat.reduceLeDiff, Nat.reducePow, Int.reduceToNat, Int.reduceLT, Int.reduceLE, Int.reduceEq, Int.reduceNe, Int.reduceAdd, Int.reduceSub, Int.reduceMul, Int.reduceNeg]
  intro b3
  refine cK_vn hs ?_
  try simp only [go_sem, reduceIte, Nat.reduceEqDiff, Nat.reduceAdd, Nat.reduceSub, Nat.reduceMul, Nat.reduceLT, Nat.reduceLeDiff, Nat.reducePow, Int.reduceToNat, Int.reduceLT, Int.reduceLE, Int.reduceEq, Int.reduceNe, Int.reduceAdd, Int.reduceSub, Int.reduceMul, Int.reduceNeg, ]
  refine cK_vx hsm ?_
  rintro _ ⟨sm, rfl⟩
  try simp only [go_sem, reduceIte, Nat.reduceEqDiff, Nat.reduceAdd, Nat.reduceSub, Nat.reduceMul, Nat.reduceLT, Nat.reduceLeDiff, Nat.reducePow, Int.reduceToNat, Int.reduceLT, Int.reduceLE, Int.reduceEq, Int.reduceNe, Int.reduceAdd, Int.reduceSub, Int.reduceMul, Int.reduceNeg, eb]
  cases sm
  · try simp only [go_sem, reduceIte, Nat.reduceEqDiff, Nat.reduceAdd, Nat.reduceSub, Nat.reduceMul, Nat.reduceLT, Nat.reduceLeDiff, Nat.reducePow, Int.reduceToNat, Int.reduceLT, Int.reduceLE, Int.reduceEq, Int.reduceNe, Int.reduceAdd, Int.reduceSub, Int.reduceMul, Int.reduceNeg, eb]
    exact finK_drop ⟨rfl, rfl, rfl⟩
  try simp only [go_sem, reduceIte, Nat.reduceEqDiff, Nat.reduceAdd, Nat.reduceSub, Nat.reduceMul, Nat.reduceLT, Nat.reduceLeDiff, Nat.reducePow, Int.reduceToNat, Int.reduceLT, Int.reduceLE, Int.reduceEq, Int.reduceNe, Int.reduceAdd, Int.reduceSub, Int.reduceMul, Int.reduceNeg, eb]
  refine cd_dec (fun g => ?_) (fun g => ?_)
  · try simp only [go_sem, reduceIte, Nat.reduceEqDiff, Nat.reduceAdd, Nat.reduceSub, Nat.reduceMul, Nat.reduceLT, Nat.reduceLeDiff, Nat.reducePow, Int.reduceToNat, Int.reduceLT, Int.reduceLE, Int.reduceEq, Int.reduceNe, Int.reduceAdd, Int.reduceSub, Int.reduceMul, Int.reduceNeg, eb]
    exact finK_drop ⟨rfl, rfl, rfl⟩
  have hb2 : b.length ≤ 2000 := by omega
  try simp only [go_sem, reduceIte, Nat.reduceEqDiff, Nat.reduceAdd, Nat.reduceSub, Nat.reduceMul, Nat.reduceLT, Nat.reduceLeDiff, Nat.reducePow, Int.reduceToNat, Int.reduceLT, Int.reduceLE, Int.reduceEq, Int.reduceNe, Int.reduceAdd, Int.reduceSub, Int.reduceMul, Int.reduceNeg, eb]
  refine cK_vx hform ?_
  rintro _ ⟨q, rfl, hq, hqf⟩
  try simp only [go_sem, reduceIte, Nat.reduceEqDiff, Nat.reduceAdd, Nat.reduceSub, Nat.reduceMul, Nat.reduceLT, Nat.reduceLeDiff, Nat.reducePow, Int.reduceToNat, Int.reduceLT, Int.reduceLE, Int.reduceEq, Int.reduceNe, Int.reduceAdd, Int.reduceSub, Int.reduceMul, Int.reduceNeg, eb]
  have N := trivial
  refine new_1 fun b8 h8a h8b => ?_
  have h8 := And.intro h8b h8a
  try simp only [go_sem, reduceIte, Nat.reduceEqDiff, Nat.reduceAdd, Nat.reduceSub, Nat.reduceMul, Nat.reduceLT, Nat.reduceLeDiff, Nat.reducePow, Int.reduceToNat, Int.reduceLT, Int.reduceLE, Int.reduceEq, Int.reduceNe, Int.reduceAdd, Int.reduceSub, Int.reduceMul, Int.reduceNeg, eb, hwn, hmn]
  refine ⟨⟨Int.natCast_nonneg _, Int.ofNat_le.2 (Nat.min_le_left _ _)⟩, ?_⟩
  obtain ⟨k, hk⟩ : ∃ k, min b.length n = k := ⟨_, rfl⟩
  have hkb : k ≤ b.length := by rw [← hk]; exact Nat.min_le_left _ _
  rw [hk]
  clear hmn hk hwn
  have hpre : (b.take k).length = k := by rw [List.length_take]; omega
  have hw8 := hq.wellF
  have hE := encHs_len hq.pi hq.form
  have henc := pEncode_ta (G := G) .none (b.take k) q (by omega) (by omega) hq.pi
  rw [hw8, if_pos rfl] at henc
  obtain ⟨C, hC⟩ : ∃ C, b.take k ++ encP q = C := ⟨_, rfl⟩
  have hCl : C.length = k + (encP q).length := by rw [← hC, List.length_append, hpre]
  have hE2 : (encP q).length ≤ (subs q).length * 4000 := hE
  have hCb : Byt C := by rw [← hC]; exact Byt_app (fun x hx => hb x (List.mem_of_mem_take hx)) (encP_byt hq)
  rw [hC] at henc
  have hSp : Sp (C ++ b) k (encP q) C.length := by
    refine ⟨by omega, by simp, ?_⟩
    rw [List.take_left, ← hC, List.append_assoc, List.take_append_of_le_length (by omega), List.take_of_length_le (by omega)]
  have hd1 := pDec_enc hw8 hq.pi hSp
  have hd1' := fun tk => pDecode_ok (G := G) tk (C ++ b) k (Byt_app hCb hb) (by rw [List.length_append]; omega)
  rw [hd1] at hd1'
  refine cK_ta henc fun tk ω1 hw _ => ?_
  have hto := hw.ok
  have htg := hw.gone
  have eC : (bs C).length = C.length := bs_length C
  have ek : (bs (b.take k)).length = k := by rw [bs_length, hpre]
  try simp only [go_sem, reduceIte, Nat.reduceEqDiff, Nat.reduceAdd, Nat.reduceSub, Nat.reduceMul, Nat.reduceLT, Nat.reduceLeDiff, Nat.reducePow, Int.reduceToNat, Int.reduceLT, Int.reduceLE, Int.reduceEq, Int.reduceNe, Int.reduceAdd, Int.reduceSub, Int.reduceMul, Int.reduceNeg, eb, eC, ek, List.append_nil, hto, htg]
  refine ⟨by omega, fun t' _ => ?_⟩
  rw [bs_append]
  refine cK_vn (hd1' _) ?_
  try simp only [go_sem, reduceIte, Nat.reduceEqDiff, Nat.reduceAdd, Nat.reduceSub, Nat.reduceMul, Nat.reduceLT, Nat.reduceLeDiff, Nat.reducePow, Int.reduceToNat, Int.reduceLT, Int.reduceLE, Int.reduceEq, Int.reduceNe, Int.reduceAdd, Int.reduceSub, Int.reduceMul, Int.reduceNeg, eb, eC, ek]
  have M : (b3 ≠ b8 ∧ b8 ≠ b3) := h8
  refine new_any fun b12 h12 => ?_
  simp only [set_none] at h12
  have N2 : (b12 ≠ b8 ∧ b8 ≠ b12) ∧ (b12 ≠ b3 ∧ b3 ≠ b12) := ⟨⟨h12.1.2, h12.1.1⟩, ⟨h12.2.1.2, h12.2.1.1⟩⟩
  try simp only [go_sem, reduceIte, Nat.reduceEqDiff, Nat.reduceAdd, Nat.reduceSub, Nat.reduceMul, Nat.reduceLT, Nat.reduceLeDiff, Nat.reducePow, Int.reduceToNat, Int.reduceLT, Int.reduceLE, Int.reduceEq, Int.reduceNe, Int.reduceAdd, Int.reduceSub, Int.reduceMul, Int.reduceNeg, eb, eC, ek, N2, M]
  have hd2 := pDecode_ok (G := G) .none b k hb (by omega)
  have hun := fun h => pDec_un hb hkb h
  obtain ⟨⟨y, j, f⟩, hD2⟩ : ∃ D2, pDecF b (k : Int) = D2 := ⟨_, rfl⟩
  rw [hD2] at hd2 hun
  dsimp only at hd2 hun
  refine cK_vn hd2 ?_
  try simp only [go_sem, reduceIte, Nat.reduceEqDiff, Nat.reduceAdd, Nat.reduceSub, Nat.reduceMul, Nat.reduceLT, Nat.reduceLeDiff, Nat.reducePow, Int.reduceToNat, Int.reduceLT, Int.reduceLE, Int.reduceEq, Int.reduceNe, Int.reduceAdd, Int.reduceSub, Int.reduceMul, Int.reduceNeg, eb, eC, ek, N2, M]
  refine new_any fun b15 h15 => ?_
  simp only [set_none] at h15
  have N3 : (b15 ≠ b12 ∧ b12 ≠ b15) ∧ (b15 ≠ b8 ∧ b8 ≠ b15) ∧ (b15 ≠ b3 ∧ b3 ≠ b15) := ⟨⟨h15.1.2, h15.1.1⟩, ⟨h15.2.1.2, h15.2.1.1⟩, ⟨h15.2.2.1.2, h15.2.2.1.1⟩⟩
  have hsame := rSame_ok (G := G) q
  refine ⟨fun h => ⟨h, fun h2 => ⟨h, h2⟩⟩, ?_⟩
  by_cases f0 : f = 0
  · obtain ⟨j', rfl, j1, j2, j3, j4, j5⟩ := hun f0
    subst f0
    have hys : (encP y).length = j' - k := by rw [j4, List.length_drop, List.length_take]; omega
    have henc2 := VTA.vn (pEncode_ta (G := G) .full [] y (by simp) (by have := encP_few y; omega) j5)
    rw [j3, if_pos rfl, List.nil_append] at henc2
    have hcut : encP y = (b.drop k).take (j' - k) := by rw [j4, List.take_drop]; congr 2; omega
    have c1 : ((j' : Int) ≤ (k : Nat)) = False := eq_false (by omega)
    have c2 : ((b.length : Int) < (j' : Nat)) = False := eq_false (by omega)
    try simp only [go_sem, reduceIte, Nat.reduceEqDiff, Nat.reduceAdd, Nat.reduceSub, Nat.reduceMul, Nat.reduceLT, Nat.reduceLeDiff, Nat.reducePow, Int.reduceToNat, Int.reduceLT, Int.reduceLE, Int.reduceEq, Int.reduceNe, Int.reduceAdd, Int.reduceSub, Int.reduceMul, Int.reduceNeg, eb, eC, ek, N2, N3, M, c1, c2, decide_false]
    refine ⟨⟨Int.natCast_nonneg _, Int.ofNat_le.2 (by omega), Int.ofNat_le.2 j2⟩, ?_⟩
    refine cE_vn henc2 ?_
    try simp only [go_sem, reduceIte, Nat.reduceEqDiff, Nat.reduceAdd, Nat.reduceSub, Nat.reduceMul, Nat.reduceLT, Nat.reduceLeDiff, Nat.reducePow, Int.reduceToNat, Int.reduceLT, Int.reduceLE, Int.reduceEq, Int.reduceNe, Int.reduceAdd, Int.reduceSub, Int.reduceMul, Int.reduceNeg, eb, eC, ek, N2, N3, M, c1, c2]
    refine cE_vn (SM _ _ _ _ hcut) ?_
    try simp only [go_sem, reduceIte, Nat.reduceEqDiff, Nat.reduceAdd, Nat.reduceSub, Nat.reduceMul, Nat.reduceLT, Nat.reduceLeDiff, Nat.reducePow, Int.reduceToNat, Int.reduceLT, Int.reduceLE, Int.reduceEq, Int.reduceNe, Int.reduceAdd, Int.reduceSub, Int.reduceMul, Int.reduceNeg, eb, eC, ek, N2, N3, M, c1, c2]
    (first | refine cK_vn (hsame) ?_ | refine cE_vn (hsame) ?_)
    try simp only [go_sem, reduceIte, Nat.reduceEqDiff, Nat.reduceAdd, Nat.reduceSub, Nat.reduceMul, Nat.reduceLT, Nat.reduceLeDiff, Nat.reducePow, Int.reduceToNat, Int.reduceLT, Int.reduceLE, Int.reduceEq, Int.reduceNe, Int.reduceAdd, Int.reduceSub, Int.reduceMul, Int.reduceNeg, eb, eC, ek, N2, N3, M, c1, c2]
    exact finK_drop ⟨rfl, rfl, rfl⟩
  · have f0' := eq_false f0
    try simp only [go_sem, reduceIte, Nat.reduceEqDiff, Nat.reduceAdd, Nat.reduceSub, Nat.reduceMul, Nat.reduceLT, Nat.reduceLeDiff, Nat.reducePow, Int.reduceToNat, Int.reduceLT, Int.reduceLE, Int.reduceEq, Int.reduceNe, Int.reduceAdd, Int.reduceSub, Int.reduceMul, Int.reduceNeg, eb, eC, ek, N2, N3, M, f0', decide_false]
    (first | refine cK_vn (hsame) ?_ | refine cE_vn (hsame) ?_)
    try simp only [go_sem, reduceIte, Nat.reduceEqDiff, Nat.reduceAdd, Nat.reduceSub, Nat.reduceMul, Nat.reduceLT, Nat.reduceLeDiff, Nat.reducePow, Int.reduceToNat, Int.reduceLT, Int.reduceLE, Int.reduceEq, Int.reduceNe, Int.reduceAdd, Int.reduceSub, Int.reduceMul, Int.reduceNeg, eb, eC, ek, N2, N3, M, f0']
    exact finK_drop ⟨rfl, rfl, rfl⟩
end Go.Proofs.YtbfkhepfgibonaaS
