import Derived.Test.YtdemkhcloholiaaAW1
set_option linter.unusedVariables false
set_option linter.unusedSimpArgs false
set_option maxRecDepth 100000
namespace Go.Proofs.YtdemkhcloholiaaS
open Go Go.Proofs.YtdemkhcloholiaaV

variable {G : Heap}
attribute [local irreducible] VN VC VT0 VT1 VW VR VB

theorem sized34_so (bx off cap : Nat) (t2 : Tk) (l b p : List Nat) (hx : (l.drop off).take b.length = b) (hfit : off + b.length ≤ l.length) (hn : (enc p.length).length ≤ 10) (hlen : b.length + p.length ≤ 2^45) :
    VB P G 34 [.so bx off b.length cap, .sl t2 (bs p)] bx (bs l) (fun b' => .so b' 0 (b.length + (enc p.length).length + p.length) (b.length + (10 + p.length)))
      (bs (b ++ enc p.length ++ p ++ ((List.replicate (10 + p.length) 0).drop (enc p.length).length).drop p.length)) := by
  have r := room_so (G := G) bx off cap l b (10 + p.length) hx hfit (by omega)
  have nm := fun b' => number_so (G := G) b' b (List.replicate (10 + p.length) 0) p.length (by simp; omega) (by simp; omega)
  simp only [List.length_replicate] at nm
  unfold VB
  refine VC.ofs (fun | 99999999 => [(0, [0, 1, 4, 5])] | _ => []) [4] mixed Try.func34 rfl rfl rfl rfl (by decide +kernel) (by simp) ?_
  simp only [go_sem, reduceIte, Nat.reduceEqDiff, Nat.reduceAdd, Nat.reduceSub, Nat.reduceMul, Nat.reduceLT, Nat.reduceLeDiff, Nat.reducePow, Int.reduceToNat, Int.reduceLT, Int.reduceLE, Int.reduceEq, Int.reduceNe, Int.reduceAdd, Int.reduceSub, Int.reduceMul, Int.reduceNeg]
  rw [wrap_i64 (by omega) (by omega)]
  have e : (10 + (p.length : Int)) = ((10 + p.length : Nat) : Int) := by omega
  rw [e]
  refine cK_vb r (by simp [Heap.set]) fun b' hb' => ?_
  have ne : b' ≠ bx ∧ bx ≠ b' := by
    constructor <;> (rintro rfl; simp [Heap.set] at hb')
  simp only [go_sem, reduceIte, Nat.reduceEqDiff, Nat.reduceAdd, Nat.reduceSub, Nat.reduceMul, Nat.reduceLT, Nat.reduceLeDiff, Nat.reducePow, Int.reduceToNat, Int.reduceLT, Int.reduceLE, Int.reduceEq, Int.reduceNe, Int.reduceAdd, Int.reduceSub, Int.reduceMul, Int.reduceNeg]
  have e : ((p.length : Int) % 18446744073709551616) = (p.length : Int) := by omega
  rw [e]
  refine cK_vw (nm b') (by simp [Heap.set]) ?_
  simp only [go_sem, reduceIte, Nat.reduceEqDiff, Nat.reduceAdd, Nat.reduceSub, Nat.reduceMul, Nat.reduceLT, Nat.reduceLeDiff, Nat.reducePow, Int.reduceToNat, Int.reduceLT, Int.reduceLE, Int.reduceEq, Int.reduceNe, Int.reduceAdd, Int.reduceSub, Int.reduceMul, Int.reduceNeg]
  rw [set_set]
  refine bapB (out := b ++ enc p.length) (sp := (List.replicate (10 + p.length) 0).drop (enc p.length).length) (ys := p) trivial (by simp [Heap.set]) (by simp) (by simp; omega) (srcL t2 p) (bs_flat p) (bs_length p) (by simp; omega) (by simp; omega) ?_
  rw [set_set]
  refine finK_var2 (b := bx) (b' := b') (cs := bs l) (by simp [Heap.set, ne]) (by simp [Heap.set]) ⟨b', ne.1, by simp, rfl, rfl⟩
theorem Bytes_so (bx off cap : Nat) (t2 : Tk) (l b p : List Nat) (hx : (l.drop off).take b.length = b) (hfit : off + b.length ≤ l.length) (hn : (enc p.length).length ≤ 10) (hlen : b.length + p.length ≤ 2^45) :
    VB P G 19 [.so bx off b.length cap, .sl t2 (bs p)] bx (bs l) (fun b' => .so b' 0 (b.length + (enc p.length).length + p.length) (b.length + (10 + p.length)))
      (bs (b ++ enc p.length ++ p ++ ((List.replicate (10 + p.length) 0).drop (enc p.length).length).drop p.length)) := by
  have u := sized34_so (G := G) bx off cap t2 l b p hx hfit hn hlen
  unfold VB
  refine VC.ofs (fun | 99999999 => [(0, [0, 1, 4])] | _ => []) [4] mixed Try.func19 rfl rfl rfl rfl (by decide +kernel) (by simp) ?_
  simp only [go_sem, reduceIte, Nat.reduceEqDiff, Nat.reduceAdd, Nat.reduceSub, Nat.reduceMul, Nat.reduceLT, Nat.reduceLeDiff, Nat.reducePow, Int.reduceToNat, Int.reduceLT, Int.reduceLE, Int.reduceEq, Int.reduceNe, Int.reduceAdd, Int.reduceSub, Int.reduceMul, Int.reduceNeg]
  refine cK_vb u (by simp [Heap.set]) fun b' hb' => ?_
  have ne : b' ≠ bx ∧ bx ≠ b' := by
    constructor <;> (rintro rfl; simp [Heap.set] at hb')
  simp only [go_sem, reduceIte, Nat.reduceEqDiff, Nat.reduceAdd, Nat.reduceSub, Nat.reduceMul, Nat.reduceLT, Nat.reduceLeDiff, Nat.reducePow, Int.reduceToNat, Int.reduceLT, Int.reduceLE, Int.reduceEq, Int.reduceNe, Int.reduceAdd, Int.reduceSub, Int.reduceMul, Int.reduceNeg]
  exact finK_var2 (by simp [Heap.set, ne]) (by simp [Heap.set]) ⟨b', ne.1, rfl, rfl, rfl⟩
theorem ReadBytes_so (bx cap : Nat) (l b : List Nat) (at_ : Int) (hx' : l.take b.length = b) (hfit : b.length ≤ l.length) (hc : b.length ≤ cap) (hb : Byt b) (hlen : b.length ≤ 2^45) :
    VB P G 27 [.so bx 0 b.length cap, .int .i64 at_] bx (bs l) (fun b' => .tup [.so b' 0 ((b.drop (spanF b at_).1).take ((spanF b at_).2.1 - (spanF b at_).1)).length ((b.drop (spanF b at_).1).take ((spanF b at_).2.1 - (spanF b at_).1)).length, .int .i64 (spanF b at_).2.1, .int .i64 (spanF b at_).2.2])
      (bs ((b.drop (spanF b at_).1).take ((spanF b at_).2.1 - (spanF b at_).1))) := by
  have hU := span_so (G := G) bx cap l b at_ hx' hfit hc hb (by omega)
  have hs := spanF_spec b at_ hb
  generalize spanF b at_ = r at hU hs ⊢
  obtain ⟨f, t, er⟩ := r
  obtain ⟨h1, h2⟩ := hs
  simp only [triI] at hU h1 h2 ⊢
  have hml : ((b.drop f).take (t - f)).length = t - f := by simp; omega
  have r : ∀ off, (t - f ≠ 0 → off = f) → off ≤ l.length → ∀ c, VB P G 32 [.so bx off (t - f) c, .int .i64 0] bx (bs l) (fun b' => .so b' 0 (t - f) (t - f)) (bs ((b.drop f).take (t - f))) := fun off ho hol c => by
    have h := room_so (G := G) bx off c l ((b.drop f).take (t - f)) 0 (by
      rw [hml]
      by_cases z : t - f = 0
      · rw [z]; simp
      · rw [ho z]
        have e : b.drop f = (l.drop f).take (b.length - f) := by
          have := congrArg (List.drop f) hx'
          rw [← this, List.drop_take]
        rw [e, List.take_take]
        congr 1
        omega) (by
      rw [hml]
      by_cases z : t - f = 0
      · omega
      · rw [ho z]; omega) (by rw [hml]; omega)
    rw [hml] at h
    simpa using h
  unfold VB
  refine VC.ofs (fun | 99999999 => [(0, [0, 1, 4, 5, 6, 7, 8, 9])] | _ => []) [4, 5, 6] mixed Try.func27 rfl rfl rfl rfl (by decide +kernel) (by simp) ?_
  simp only [go_sem, reduceIte, Nat.reduceEqDiff, Nat.reduceAdd, Nat.reduceSub, Nat.reduceMul, Nat.reduceLT, Nat.reduceLeDiff, Nat.reducePow, Int.reduceToNat, Int.reduceLT, Int.reduceLE, Int.reduceEq, Int.reduceNe, Int.reduceAdd, Int.reduceSub, Int.reduceMul, Int.reduceNeg]
  refine cK_vr hU (by simp [Heap.set]) ?_
  simp only [go_sem, reduceIte, Nat.reduceEqDiff, Nat.reduceAdd, Nat.reduceSub, Nat.reduceMul, Nat.reduceLT, Nat.reduceLeDiff, Nat.reducePow, Int.reduceToNat, Int.reduceLT, Int.reduceLE, Int.reduceEq, Int.reduceNe, Int.reduceAdd, Int.reduceSub, Int.reduceMul, Int.reduceNeg]
  have hbl : (b.length : Int) ≤ cap := by omega
  refine ⟨⟨by omega, by omega, by omega⟩, cK_vb (r _ (fun z => by split <;> omega) (by split <;> omega) _) (by simp [Heap.set]) fun b' hb' => ?_⟩
  have ne : b' ≠ bx ∧ bx ≠ b' := by
    constructor <;> (rintro rfl; simp [Heap.set] at hb')
  simp only [go_sem, reduceIte, Nat.reduceEqDiff, Nat.reduceAdd, Nat.reduceSub, Nat.reduceMul, Nat.reduceLT, Nat.reduceLeDiff, Nat.reducePow, Int.reduceToNat, Int.reduceLT, Int.reduceLE, Int.reduceEq, Int.reduceNe, Int.reduceAdd, Int.reduceSub, Int.reduceMul, Int.reduceNeg]
  exact finK_var2 (by simp [Heap.set, ne]) (by simp [Heap.set]) ⟨b', ne.1, by rw [hml], rfl, rfl⟩
end Go.Proofs.YtdemkhcloholiaaS
