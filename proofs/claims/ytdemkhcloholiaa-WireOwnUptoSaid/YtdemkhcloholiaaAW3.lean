import Derived.Test.YtdemkhcloholiaaAW2
import Derived.Test.YtdemkhcloholiaaA13
set_option linter.unusedVariables false
set_option linter.unusedSimpArgs false
set_option maxRecDepth 100000
namespace Go.Proofs.YtdemkhcloholiaaS
open Go Go.Proofs.YtdemkhcloholiaaV

variable {G : Heap}
attribute [local irreducible] VN VC VT0 VT1 VW VR VB

theorem enc_300 : enc 300 = [172, 2] := by rw [enc_2 (by omega) (by omega)]
theorem enc_m1 : enc (zig (-1)) = [1] := by
  have : zig (-1) = 1 := by decide
  rw [this, enc_small (by omega)]
theorem set_none1 {β : Heap} {a b : Nat} {cs : List D} : ((β.set a cs) b = none) = ((a ≠ b ∧ b ≠ a) ∧ β b = none) := by
  unfold Heap.set
  by_cases h : b = a
  · simp [h]
  · simp [h, Ne.symm h]
theorem box_ne1 {β : Heap} {a b : Nat} {x : List D} (h : β b = none) (e : β a = some x) : a ≠ b ∧ b ≠ a := by
  constructor <;> (rintro rfl; rw [e] at h; cases h)
set_option maxHeartbeats 4000000 in
theorem own_ok (b p : List Nat) (hb : Byt b) (hp : Byt p) (lb : b.length ≤ 1048576) (lp : p.length ≤ 1048576) : VN P G 10 [.sl .none (bs b), .sl .none (bs p)] (.bool true) := by
  have s0 := sanity_ok (G := G)
  have le10 := enc_len (n := p.length) (by omega)
  have lep := enc_pos p.length
  have hx : ((b ++ List.replicate 40 0).drop 0).take b.length = b := by simp
  have hf : 0 + b.length ≤ (b ++ List.replicate 40 0).length := by simp
  have f1 : ∀ bx, VB P G 13 [.so bx 0 b.length (b.length + 40), .int .u64 300] bx (bs (b ++ List.replicate 40 0)) (fun b' => .so b' 0 (b.length + 2) (b.length + 10)) (bs (b ++ [172, 2] ++ List.replicate 8 0)) := fun bx => by
    have h := U_so (G := G) bx 0 (b.length + 40) (b ++ List.replicate 40 0) b 300 hx hf (by rw [enc_300]; simp) (by omega)
    rw [enc_300] at h
    exact h
  have f2 := fun bx => Bytes_so (G := G) bx 0 (b.length + 40) .none (b ++ List.replicate 40 0) b p hx hf le10 (by omega)
  have f3 : ∀ bx, VB P G 15 [.so bx 0 b.length (b.length + 40), .int .i64 (-1)] bx (bs (b ++ List.replicate 40 0)) (fun b' => .so b' 0 (b.length + 1) (b.length + 10)) (bs (b ++ [1] ++ List.replicate 9 0)) := fun bx => by
    have h := S_so (G := G) bx 0 (b.length + 40) (b ++ List.replicate 40 0) b (-1) (by omega) hx hf (by rw [enc_m1]; simp) (by omega)
    rw [enc_m1] at h
    exact h
  have sz : ((List.replicate (10 + p.length) 0).drop (enc p.length).length).drop p.length = List.replicate (10 - (enc p.length).length) 0 := by
    rw [List.drop_drop, List.drop_replicate]; congr 1; omega
  simp only [sz] at f2
  have sp := spanF_enc b p [] lp
  have ce := cut_enc b p [] p.length
  simp only [List.append_nil] at sp ce
  have f4 : ∀ b2 c2, b.length + (enc p.length).length + p.length ≤ c2 → VB P G 27 [.so b2 0 (b.length + (enc p.length).length + p.length) c2, .int .i64 b.length] b2 (bs (b ++ enc p.length ++ p ++ List.replicate (10 - (enc p.length).length) 0))
      (fun b' => .tup [.so b' 0 p.length p.length, .int .i64 ((b.length + (enc p.length).length + p.length : Nat) : Int), .int .i64 0]) (bs p) := fun b2 c2 hc => by
    have hl : (b ++ enc p.length ++ p).length = b.length + (enc p.length).length + p.length := by simp; omega
    have h := ReadBytes_so (G := G) b2 c2 (b ++ enc p.length ++ p ++ List.replicate (10 - (enc p.length).length) 0) (b ++ enc p.length ++ p) b.length (by rw [List.take_left]) (by simp) (by rw [hl]; exact hc) ((hb.append (byt_enc _)).append hp) (by rw [hl]; omega)
    simp only [sp, ce, hl] at h
    exact h
  have sq := fun b4 => same_so (G := G) b4 0 p.length .none p p p (by simp) (by simp)
  have sr := fun bx => same_so (G := G) bx 0 (b.length + 40) .none (b ++ List.replicate 40 0) b b hx hf
  have sf := fun b1 => same_so (G := G) b1 0 (b.length + 10) .none (b ++ [172, 2] ++ List.replicate 8 0) b b (by simp) (by simp)
  simp only [decide_true] at sq sr sf
  generalize he : (enc p.length).length = e at le10 lep f2 f4
  have wn := wrap_i64 (x := (b.length : Int) + 40) (by omega) (by omega)
  unfold VN
  refine VC.ofs (fun | 99999999 => [(0, [0, 1, 4, 5, 6, 7, 8, 9, 10, 11, 12, 13, 14, 15, 16, 17, 18, 53, 65, 79, 95])] | _ => []) [4] mixed Try.func10 rfl rfl rfl rfl (by decide +kernel) (by simp) ?_
  simp only [go_sem, reduceIte, Nat.reduceEqDiff, Nat.reduceAdd, Nat.reduceSub, Nat.reduceMul, Nat.reduceLT, Nat.reduceLeDiff, Nat.reducePow, Int.reduceToNat, Int.reduceLT, Int.reduceLE, Int.reduceEq, Int.reduceNe, Int.reduceAdd, Int.reduceSub, Int.reduceMul, Int.reduceNeg]
  refine cK_vn s0 ?_
  simp only [go_sem, reduceIte, Nat.reduceEqDiff, Nat.reduceAdd, Nat.reduceSub, Nat.reduceMul, Nat.reduceLT, Nat.reduceLeDiff, Nat.reducePow, Int.reduceToNat, Int.reduceLT, Int.reduceLE, Int.reduceEq, Int.reduceNe, Int.reduceAdd, Int.reduceSub, Int.reduceMul, Int.reduceNeg, wn, bs_length]
  have e0 : ((b.length : Int) + 40).toNat = b.length + 40 := by omega
  simp only [e0, zeros_bs]
  refine ⟨by omega, by omega, by omega, fun bx => ?_⟩
  refine bapB (out := []) (sp := List.replicate (b.length + 40) 0) (ys := b) trivial (by simp [Heap.set]) rfl (by simp) (srcL .none b) (bs_flat b) (bs_length b) (by simp) (by simp; omega) ?_
  have e1 : ([] : List Nat) ++ b ++ (List.replicate (b.length + 40) 0).drop b.length = b ++ List.replicate 40 0 := by simp [List.drop_replicate]
  rw [set_set, e1, show ([] : List Nat).length + b.length = b.length from Nat.zero_add _]
  simp only [go_sem, reduceIte, Nat.reduceEqDiff, Nat.reduceAdd, Nat.reduceSub, Nat.reduceMul, Nat.reduceLT, Nat.reduceLeDiff, Nat.reducePow, Int.reduceToNat, Int.reduceLT, Int.reduceLE, Int.reduceEq, Int.reduceNe, Int.reduceAdd, Int.reduceSub, Int.reduceMul, Int.reduceNeg]
  refine cK_vb (f1 bx) (by simp [Heap.set]) fun b1 g1 => ?_
  have n1 := box_ne1 g1 (show (Heap.nil.set bx (bs (b ++ List.replicate 40 0))) bx = _ by simp [Heap.set]; rfl)
  simp only [go_sem, reduceIte, Nat.reduceEqDiff, Nat.reduceAdd, Nat.reduceSub, Nat.reduceMul, Nat.reduceLT, Nat.reduceLeDiff, Nat.reducePow, Int.reduceToNat, Int.reduceLT, Int.reduceLE, Int.reduceEq, Int.reduceNe, Int.reduceAdd, Int.reduceSub, Int.reduceMul, Int.reduceNeg]
  refine cK_vb (f2 bx) (by simp [Heap.set, n1]) fun b2 g2 => ?_
  simp only [set_none1] at g2
  simp only [go_sem, reduceIte, Nat.reduceEqDiff, Nat.reduceAdd, Nat.reduceSub, Nat.reduceMul, Nat.reduceLT, Nat.reduceLeDiff, Nat.reducePow, Int.reduceToNat, Int.reduceLT, Int.reduceLE, Int.reduceEq, Int.reduceNe, Int.reduceAdd, Int.reduceSub, Int.reduceMul, Int.reduceNeg]
  refine cK_vb (f3 bx) (by simp [Heap.set, n1, g2]) fun b3 g3 => ?_
  simp only [set_none1] at g3
  generalize hβ : Heap.set _ b3 _ = β0
  have x0 : β0 bx = some (bs (b ++ List.replicate 40 0)) := by rw [← hβ]; simp [Heap.set, n1, g2, g3]
  have x1 : β0 b1 = some (bs (b ++ [172, 2] ++ List.replicate 8 0)) := by rw [← hβ]; simp [Heap.set, n1, g2, g3]
  have x2 : β0 b2 = some (bs (b ++ enc p.length ++ p ++ List.replicate (10 - e) 0)) := by rw [← hβ]; simp [Heap.set, n1, g2, g3]
  have x3 : β0 b3 = some (bs (b ++ [1] ++ List.replicate 9 0)) := by rw [← hβ]; simp [Heap.set]
  clear hβ
  simp only [go_sem, reduceIte, Nat.reduceEqDiff, Nat.reduceAdd, Nat.reduceSub, Nat.reduceMul, Nat.reduceLT, Nat.reduceLeDiff, Nat.reducePow, Int.reduceToNat, Int.reduceLT, Int.reduceLE, Int.reduceEq, Int.reduceNe, Int.reduceAdd, Int.reduceSub, Int.reduceMul, Int.reduceNeg]
  have w2 := wrap_i64 (x := (b.length : Int) + 2) (by omega) (by omega)
  have w1 := wrap_i64 (x := (b.length : Int) + 1) (by omega) (by omega)
  refine cd_dec (fun g => ?_) (fun g => ?_)
  · rw [w2, w1] at g
    omega
  clear g
  simp only [go_sem, reduceIte, Nat.reduceEqDiff, Nat.reduceAdd, Nat.reduceSub, Nat.reduceMul, Nat.reduceLT, Nat.reduceLeDiff, Nat.reducePow, Int.reduceToNat, Int.reduceLT, Int.reduceLE, Int.reduceEq, Int.reduceNe, Int.reduceAdd, Int.reduceSub, Int.reduceMul, Int.reduceNeg, bs_length]
  refine cK_vb (f4 b2 _ (by omega)) x2 fun b4 g4 => ?_
  have m0 := box_ne1 g4 x0
  have m1 := box_ne1 g4 x1
  have m2 := box_ne1 g4 x2
  have m3 := box_ne1 g4 x3
  generalize hβ : Heap.set _ b4 _ = β1
  have y0 : β1 bx = some (bs (b ++ List.replicate 40 0)) := by rw [← hβ]; simp [Heap.set, m0, x0]
  have y1 : β1 b1 = some (bs (b ++ [172, 2] ++ List.replicate 8 0)) := by rw [← hβ]; simp [Heap.set, m1, x1]
  have y2 : β1 b2 = some (bs (b ++ enc p.length ++ p ++ List.replicate (10 - e) 0)) := by rw [← hβ]; simp [Heap.set, m2, x2]
  have y3 : β1 b3 = some (bs (b ++ [1] ++ List.replicate 9 0)) := by rw [← hβ]; simp [Heap.set, m3, x3]
  have y4 : β1 b4 = some (bs p) := by rw [← hβ]; simp [Heap.set]
  clear hβ x0 x1 x2 x3 g4 β0
  simp only [go_sem, reduceIte, Nat.reduceEqDiff, Nat.reduceAdd, Nat.reduceSub, Nat.reduceMul, Nat.reduceLT, Nat.reduceLeDiff, Nat.reducePow, Int.reduceToNat, Int.reduceLT, Int.reduceLE, Int.reduceEq, Int.reduceNe, Int.reduceAdd, Int.reduceSub, Int.reduceMul, Int.reduceNeg]
  refine vwq_loop (fun v => ∃ (j : Nat) (l3 : List Nat), j ≤ b.length + 1 ∧ l3.length = b.length + 10 ∧ v.σ 0 = .sl .none (bs b) ∧ v.σ 1 = .sl .none (bs p) ∧ v.σ 5 = .bool true ∧ v.σ 6 = .so bx 0 b.length (b.length + 40) ∧ v.σ 7 = .so b1 0 (b.length + 2) (b.length + 10) ∧ v.σ 8 = .so b2 0 (b.length + e + p.length) (b.length + (10 + p.length)) ∧ v.σ 9 = .so b3 0 (b.length + 1) (b.length + 10) ∧ v.σ 10 = .so b4 0 p.length p.length ∧ v.σ 11 = .int .i64 ((b.length + e + p.length : Nat) : Int) ∧ v.σ 12 = .int .i64 0 ∧ v.σ 13 = .int .i64 j ∧ v.β bx = some (bs (b ++ List.replicate 40 0)) ∧ v.β b1 = some (bs (b ++ [172, 2] ++ List.replicate 8 0)) ∧ v.β b4 = some (bs p) ∧ v.β b2 = some (bs (b ++ enc p.length ++ p ++ List.replicate (10 - e) 0)) ∧ v.β b3 = some (bs l3)) (fun v => b.length + 1 - (ival (v.σ 13)).toNat)
    ⟨0, b ++ [1] ++ List.replicate 9 0, by omega, by simp, rfl, rfl, rfl, rfl, rfl, rfl, rfl, rfl, rfl, rfl, rfl, y0, y1, y4, y2, y3⟩ ?_
  clear y0 y1 y2 y3 y4 β1
  rintro σ β ω ⟨j, l3, j1, hl3, q0, q1, q5, q6, q7, q8, q9, q10, q11, q12, q13, y0, y1, y4, y2, y3⟩
  dsimp only at q0 q1 q5 q6 q7 q8 q9 q10 q11 q12 q13 y0 y1 y2 y3 y4
  simp only [go_sem, reduceIte, Nat.reduceEqDiff, Nat.reduceAdd, Nat.reduceSub, Nat.reduceMul, Nat.reduceLT, Nat.reduceLeDiff, Nat.reducePow, Int.reduceToNat, Int.reduceLT, Int.reduceLE, Int.reduceEq, Int.reduceNe, Int.reduceAdd, Int.reduceSub, Int.reduceMul, Int.reduceNeg, q0, q1, q5, q6, q7, q8, q9, q10, q11, q12, q13, y3]
  refine cd_dec (fun g => ?_) (fun g => ?_)
  · have g' : j < b.length + 1 := by omega
    have hat : (bs l3).getD (0 + j * 1) .any = .int .u8 ((l3.getD j 0 : Nat) : Int) := by rw [Nat.mul_one, Nat.zero_add, bs_at l3 (by omega)]
    have hbd : (0 + j * 1 < l3.length) = True := eq_true (by omega)
    have hbd2 : (0 + j * 1 + 1 ≤ l3.length) = True := eq_true (by omega)
    have c1 : ((0 : Int) ≤ j) = True := eq_true (by omega)
    have c2 := eq_true g
    have ho := bs_obj l3
    have wj := wrap_i64 (x := (j : Int) + 1) (by omega) (by omega)
    simp only [go_sem, reduceIte, Nat.reduceEqDiff, Nat.reduceAdd, Nat.reduceSub, Nat.reduceMul, Nat.reduceLT, Nat.reduceLeDiff, Nat.reducePow, Int.reduceToNat, Int.reduceLT, Int.reduceLE, Int.reduceEq, Int.reduceNe, Int.reduceAdd, Int.reduceSub, Int.reduceMul, Int.reduceNeg, q0, q1, q5, q6, q7, q8, q9, q10, q11, q12, q13, y3, hat, hbd, hbd2, c1, c2, ho, wj, bs_length]
    refine ⟨⟨j + 1, l3.take j ++ [(l3.getD j 0 + 1) % 256] ++ l3.drop (j + 1), by omega, by simp; omega, ?_⟩, by omega⟩
    have ev : (((l3.getD j 0 : Nat) : Int) + 1) % 256 = (((l3.getD j 0 + 1) % 256 : Nat) : Int) := by omega
    rw [ev]
    simp [Heap.set, n1, g2, g3, m0, m1, m2, m3, y0, y1, y2, y4, bs]
  · simp only [go_sem, reduceIte, Nat.reduceEqDiff, Nat.reduceAdd, Nat.reduceSub, Nat.reduceMul, Nat.reduceLT, Nat.reduceLeDiff, Nat.reducePow, Int.reduceToNat, Int.reduceLT, Int.reduceLE, Int.reduceEq, Int.reduceNe, Int.reduceAdd, Int.reduceSub, Int.reduceMul, Int.reduceNeg, q0, q1, q5, q6, q7, q8, q9, q10, q11, q12, q13]
    clear q13 y3 hl3 j1 g
    refine vwq_loop (fun v => ∃ (j : Nat) (l2 : List Nat), j ≤ b.length + e + p.length ∧ l2.length = b.length + (10 + p.length) ∧ v.σ 0 = .sl .none (bs b) ∧ v.σ 1 = .sl .none (bs p) ∧ v.σ 5 = .bool true ∧ v.σ 6 = .so bx 0 b.length (b.length + 40) ∧ v.σ 7 = .so b1 0 (b.length + 2) (b.length + 10) ∧ v.σ 8 = .so b2 0 (b.length + e + p.length) (b.length + (10 + p.length)) ∧ v.σ 9 = .so b3 0 (b.length + 1) (b.length + 10) ∧ v.σ 10 = .so b4 0 p.length p.length ∧ v.σ 11 = .int .i64 ((b.length + e + p.length : Nat) : Int) ∧ v.σ 12 = .int .i64 0 ∧ v.σ 14 = .int .i64 j ∧ v.β bx = some (bs (b ++ List.replicate 40 0)) ∧ v.β b1 = some (bs (b ++ [172, 2] ++ List.replicate 8 0)) ∧ v.β b4 = some (bs p) ∧ v.β b2 = some (bs l2)) (fun v => b.length + e + p.length - (ival (v.σ 14)).toNat)
      ⟨0, b ++ enc p.length ++ p ++ List.replicate (10 - e) 0, by omega, by simp [he]; omega, rfl, rfl, rfl, rfl, rfl, rfl, rfl, rfl, rfl, rfl, rfl, y0, y1, y4, y2⟩ ?_
    clear y0 y1 y2 y4 q0 q1 q5 q6 q7 q8 q9 q10 q11 q12 σ β ω
    rintro σ β ω ⟨j, l2, j1, hl2, q0, q1, q5, q6, q7, q8, q9, q10, q11, q12, q14, y0, y1, y4, y2⟩
    dsimp only at q0 q1 q5 q6 q7 q8 q9 q10 q11 q12 q14 y0 y1 y2 y4
    simp only [go_sem, reduceIte, Nat.reduceEqDiff, Nat.reduceAdd, Nat.reduceSub, Nat.reduceMul, Nat.reduceLT, Nat.reduceLeDiff, Nat.reducePow, Int.reduceToNat, Int.reduceLT, Int.reduceLE, Int.reduceEq, Int.reduceNe, Int.reduceAdd, Int.reduceSub, Int.reduceMul, Int.reduceNeg, q0, q1, q5, q6, q7, q8, q9, q10, q11, q12, q14, y2]
    refine cd_dec (fun g => ?_) (fun g => ?_)
    · have hbd2 : (0 + j * 1 + 1 ≤ l2.length) = True := eq_true (by omega)
      have c1 : ((0 : Int) ≤ j) = True := eq_true (by omega)
      have c2 := eq_true g
      have ho := bs_obj l2
      have wj := wrap_i64 (x := (j : Int) + 1) (by omega) (by omega)
      simp only [go_sem, reduceIte, Nat.reduceEqDiff, Nat.reduceAdd, Nat.reduceSub, Nat.reduceMul, Nat.reduceLT, Nat.reduceLeDiff, Nat.reducePow, Int.reduceToNat, Int.reduceLT, Int.reduceLE, Int.reduceEq, Int.reduceNe, Int.reduceAdd, Int.reduceSub, Int.reduceMul, Int.reduceNeg, q0, q1, q5, q6, q7, q8, q9, q10, q11, q12, q14, y2, hbd2, c1, c2, ho, wj, bs_length]
      refine ⟨⟨j + 1, l2.take j ++ [0] ++ l2.drop (j + 1), by omega, by simp; omega, ?_⟩, by omega⟩
      simp [Heap.set, n1, g2, g3, m0, m1, m2, m3, y0, y1, y4, bs]
    · simp only [go_sem, reduceIte, Nat.reduceEqDiff, Nat.reduceAdd, Nat.reduceSub, Nat.reduceMul, Nat.reduceLT, Nat.reduceLeDiff, Nat.reducePow, Int.reduceToNat, Int.reduceLT, Int.reduceLE, Int.reduceEq, Int.reduceNe, Int.reduceAdd, Int.reduceSub, Int.reduceMul, Int.reduceNeg, q0, q1, q5, q6, q7, q8, q9, q10, q11, q12, q14]
      clear q14 y2 hl2 j1 g
      simp only [wn, e0]
      refine ⟨⟨by omega, by omega, by omega⟩, ?_⟩
      refine vwq_loop (fun v => ∃ (j : Nat), j ≤ 40 ∧ v.σ 0 = .sl .none (bs b) ∧ v.σ 1 = .sl .none (bs p) ∧ v.σ 5 = .bool true ∧ v.σ 6 = .so bx 0 b.length (b.length + 40) ∧ v.σ 7 = .so b1 0 (b.length + 2) (b.length + 10) ∧ v.σ 8 = .so b2 0 (b.length + e + p.length) (b.length + (10 + p.length)) ∧ v.σ 10 = .so b4 0 p.length p.length ∧ v.σ 11 = .int .i64 ((b.length + e + p.length : Nat) : Int) ∧ v.σ 12 = .int .i64 0 ∧ v.σ 15 = .so bx b.length 40 40 ∧ v.σ 16 = .bool true ∧ v.σ 17 = .int .i64 j ∧ v.β bx = some (bs (b ++ List.replicate 40 0)) ∧ v.β b1 = some (bs (b ++ [172, 2] ++ List.replicate 8 0)) ∧ v.β b4 = some (bs p)) (fun v => 40 - (ival (v.σ 17)).toNat)
        ⟨0, by omega, rfl, rfl, rfl, rfl, rfl, rfl, rfl, rfl, rfl, ?_, rfl, rfl, y0, y1, y4⟩ ?_
      · show D.so bx (if b.length + 40 = b.length then 0 else 0 + b.length * 1) (b.length + 40 - b.length) (b.length + 40 - b.length) = _
        rw [if_neg (by omega)]
        congr 1 <;> omega
      clear y0 y1 y4 q0 q1 q5 q6 q7 q8 q9 q10 q11 q12 σ β ω
      rintro σ β ω ⟨j, j1, q0, q1, q5, q6, q7, q8, q10, q11, q12, q15, q16, q17, y0, y1, y4⟩
      dsimp only at q0 q1 q5 q6 q7 q8 q10 q11 q12 q15 q16 q17 y0 y1 y4
      have ho := bs_obj (b ++ List.replicate 40 0)
      simp only [go_sem, reduceIte, Nat.reduceEqDiff, Nat.reduceAdd, Nat.reduceSub, Nat.reduceMul, Nat.reduceLT, Nat.reduceLeDiff, Nat.reducePow, Int.reduceToNat, Int.reduceLT, Int.reduceLE, Int.reduceEq, Int.reduceNe, Int.reduceAdd, Int.reduceSub, Int.reduceMul, Int.reduceNeg, q0, q1, q5, q6, q7, q8, q10, q11, q12, q15, q16, q17, y0]
      refine cd_dec (fun g => ?_) (fun g => ?_)
      · have g' : j < 40 := by omega
        have hat : (bs (b ++ List.replicate 40 0)).getD (b.length + j * 1) .any = .int .u8 0 := by
          rw [Nat.mul_one, bs_at _ (by simp; omega)]
          have e2 : (b ++ List.replicate 40 0).getD (b.length + j) 0 = 0 := by
            simp only [List.getD, List.getElem?_append_right (show b.length ≤ b.length + j by omega), Nat.add_sub_cancel_left, List.getElem?_replicate]
            split <;> rfl
          rw [e2]; rfl
        have hbd : (b.length + j * 1 < (b ++ List.replicate 40 0).length) = True := eq_true (by simp; omega)
        have c1 : ((0 : Int) ≤ j) = True := eq_true (by omega)
        have c2 := eq_true g
        have wj := wrap_i64 (x := (j : Int) + 1) (by omega) (by omega)
        simp only [go_sem, reduceIte, Nat.reduceEqDiff, Nat.reduceAdd, Nat.reduceSub, Nat.reduceMul, Nat.reduceLT, Nat.reduceLeDiff, Nat.reducePow, Int.reduceToNat, Int.reduceLT, Int.reduceLE, Int.reduceEq, Int.reduceNe, Int.reduceAdd, Int.reduceSub, Int.reduceMul, Int.reduceNeg, q0, q1, q5, q6, q7, q8, q10, q11, q12, q15, q16, q17, y0, hat, hbd, c1, c2, ho, wj, bs_length]
        exact ⟨⟨j + 1, by omega, rfl, y1, y4⟩, by omega⟩
      · have lpT : ((p.length : Int) ≤ 1048576) = True := eq_true (by omega)
        have lpF : (1048576 < (p.length : Int)) = False := eq_false (by omega)
        have o1 := bs_obj (b ++ [172, 2] ++ List.replicate 8 0)
        have c1 : ((0 : Int) ≤ (b.length : Int)) = True := eq_true (by omega)
        simp only [go_sem, reduceIte, Nat.reduceEqDiff, Nat.reduceAdd, Nat.reduceSub, Nat.reduceMul, Nat.reduceLT, Nat.reduceLeDiff, Nat.reducePow, Int.reduceToNat, Int.reduceLT, Int.reduceLE, Int.reduceEq, Int.reduceNe, Int.reduceAdd, Int.reduceSub, Int.reduceMul, Int.reduceNeg, q0, q1, q5, q6, q7, q8, q10, q11, q12, q15, q16, q17, y0, lpT, lpF, wn]
        refine cK_vr (sq b4) y4 ?_
        simp only [go_sem, reduceIte, Nat.reduceEqDiff, Nat.reduceAdd, Nat.reduceSub, Nat.reduceMul, Nat.reduceLT, Nat.reduceLeDiff, Nat.reducePow, Int.reduceToNat, Int.reduceLT, Int.reduceLE, Int.reduceEq, Int.reduceNe, Int.reduceAdd, Int.reduceSub, Int.reduceMul, Int.reduceNeg, q0, q1, q5, q6, q7, q8, q10, q11, q12, q15, q16, q17, y0, lpT, lpF, wn, bs_length]
        refine cK_vr (sr bx) y0 ?_
        simp only [go_sem, reduceIte, Nat.reduceEqDiff, Nat.reduceAdd, Nat.reduceSub, Nat.reduceMul, Nat.reduceLT, Nat.reduceLeDiff, Nat.reducePow, Int.reduceToNat, Int.reduceLT, Int.reduceLE, Int.reduceEq, Int.reduceNe, Int.reduceAdd, Int.reduceSub, Int.reduceMul, Int.reduceNeg, q0, q1, q5, q6, q7, q8, q10, q11, q12, q15, q16, q17, y0, lpT, lpF, wn, bs_length, c1]
        refine ⟨by omega, cK_vr (sf b1) y1 ?_⟩
        have w1 := wrap_i64 (x := (b.length : Int) + 1) (by omega) (by omega)
        have e2 : ((b.length : Int) + 1).toNat = b.length + 1 := by omega
        have t1 : (bs (b ++ [172, 2] ++ List.replicate 8 0)).getD (0 + b.length * 1) .any = .int .u8 172 := by
          rw [Nat.mul_one, Nat.zero_add, bs_at _ (by simp)]
          simp [List.getD]
        have t2 : (bs (b ++ [172, 2] ++ List.replicate 8 0)).getD (0 + (b.length + 1) * 1) .any = .int .u8 2 := by
          rw [Nat.mul_one, Nat.zero_add, bs_at _ (by simp)]
          simp [List.getD, List.getElem?_append]
        have d1 : (0 + b.length * 1 < (b ++ [172, 2] ++ List.replicate 8 0).length) = True := eq_true (by simp)
        have d2 : (0 + (b.length + 1) * 1 < (b ++ [172, 2] ++ List.replicate 8 0).length) = True := eq_true (by simp)
        have c3 : ((b.length : Int) < ((b.length + 2 : Nat) : Int)) = True := eq_true (by omega)
        have c4 : ((b.length : Int) + 1 < ((b.length + 2 : Nat) : Int)) = True := eq_true (by omega)
        have c5 : ((0 : Int) ≤ (b.length : Int) + 1) = True := eq_true (by omega)
        simp only [go_sem, reduceIte, Nat.reduceEqDiff, Nat.reduceAdd, Nat.reduceSub, Nat.reduceMul, Nat.reduceLT, Nat.reduceLeDiff, Nat.reducePow, Int.reduceToNat, Int.reduceLT, Int.reduceLE, Int.reduceEq, Int.reduceNe, Int.reduceAdd, Int.reduceSub, Int.reduceMul, Int.reduceNeg, q0, q1, q5, q6, q7, q8, q10, q11, q12, q15, q16, q17, y0, y1, lpT, lpF, wn, bs_length, c1, w1, e2, t1, t2, d1, d2, c3, c4, c5, o1]
        exact finK_drop ⟨rfl, rfl, rfl⟩
end Go.Proofs.YtdemkhcloholiaaS
