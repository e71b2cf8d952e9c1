import Derived.Test.YtdemkhcloholiaaA10
import Derived.Test.YtdemkhcloholiaaV28
set_option linter.unusedVariables false
set_option linter.unusedSimpArgs false
set_option maxRecDepth 100000
namespace Go.Proofs.YtdemkhcloholiaaS
open Go Go.Proofs.YtdemkhcloholiaaV

variable {G : Heap}
attribute [local irreducible] VN VC VT0 VT1 VW VR VB

theorem bs_obj (l : List Nat) : isObj (bs l) = false := isObj_of (bs_one l)
theorem els1_bs : ∀ (n : Nat) (l : List Nat), n ≤ l.length → flat (els 1 n (bs l)) = bs (l.take n) := fun n l h => by
  rw [els_flat, bs_take, Nat.mul_one]
  simp only [bs, List.map_map]
  rfl
theorem els_len (m n : Nat) (cs : List D) : (els m n cs).length = n := els_length m n cs
/-- A row of bytes in a variable's cells, as a source. -/
theorem srcB {β : Heap} {b off cap : Nat} {l x : List Nat} (hb : β b = some (bs l)) (hx : (l.drop off).take x.length = x) (hl : off + x.length ≤ l.length) :
    srcOf P β 1 22 (.so b off x.length cap) = (els 1 x.length (bs (l.drop off)), True) := by
  rw [srcOf_so cutk_22 hb, bs_drop]
  exact Prod.ext rfl (eq_true ⟨bs_obj l, by rw [bs_length]; omega, bs_one l⟩)
theorem set_set {β : Heap} {b : Nat} {x y : List D} : (β.set b x).set b y = β.set b y := by
  funext i; unfold Heap.set; split <;> rfl
/-- Bytes are written behind others, in a variable's cells. -/
theorem bapB {β : Heap} {y : D} {ok : Prop} {new : Bool} {k : D → Heap → Prop} {b n : Nat} {out sp ys : List Nat} {cap : Nat} {E : List D} (hok : ok) (hb : β b = some (bs (out ++ sp))) (hno : n = out.length) (hc : cap = out.length + sp.length)
    (hy : srcOf P β 1 22 y = (E, True)) (hf : flat E = bs ys) (hl : E.length = ys.length) (hr : ys.length ≤ sp.length) (hn : out.length + ys.length ≤ 140737488355328)
    (hk : k (.so b 0 (out.length + ys.length) cap) (β.set b (bs (out ++ ys ++ sp.drop ys.length)))) : bapK P 22 22 (.so b 0 n cap) y ok new β k := by
  subst hno
  rw [bapK_at elt_22 zel_22, hy]
  refine ⟨hok, by omega, by simp, trivial, ?_⟩
  simp only [bapR, hb, hl]
  refine ⟨bs_obj _, by rw [bs_length, List.length_append]; omega, by omega, by omega, fun _ => ?_, fun h => absurd h (by omega)⟩
  have e : splice (bs (out ++ sp)) (0 + out.length * 1) (flat E) = bs (out ++ ys ++ sp.drop ys.length) := by
    rw [hf]
    unfold splice
    rw [bs_take, bs_drop, bs_append, bs_append, bs_length]
    congr 1
    simp [List.drop_append]
  rw [e]
  exact hk
theorem srcL {β : Heap} (tk : Tk) (l : List Nat) : srcOf P β 1 22 (.sl tk (bs l)) = (bs l, True) := by
  rw [srcOf_sl]
  simp only [vsrc, show cutk P 22 = some (1, 1, 0) from cutk_22, bs_er, bs_solid]
theorem room_so (bx off cap : Nat) (l b : List Nat) (k : Nat) (hx : (l.drop off).take b.length = b) (hfit : off + b.length ≤ l.length) (hlen : b.length + k ≤ 2^46) : VB P G 32 [.so bx off b.length cap, .int .i64 k] bx (bs l) (fun b' => .so b' 0 b.length (b.length + k)) (bs (b ++ List.replicate k 0)) := by
  unfold VB
  refine VC.ofs (fun _ => []) [4] mixed Try.func32 rfl rfl rfl rfl rfl (by simp) ?_
  simp only [go_sem, reduceIte, Nat.reduceEqDiff, Nat.reduceAdd, Nat.reduceSub, Nat.reduceMul, Nat.reduceLT, Nat.reduceLeDiff, Nat.reducePow, Int.reduceToNat, Int.reduceLT, Int.reduceLE, Int.reduceEq, Int.reduceNe, Int.reduceAdd, Int.reduceSub, Int.reduceMul, Int.reduceNeg]
  rw [wrap_i64 (by omega) (by omega)]
  have e : (((b.length : Int) + (k : Int))).toNat = b.length + k := by omega
  simp only [e]
  refine ⟨by omega, by omega, by omega, by omega, new_1 fun b' h1 h2 => ?_⟩
  have hb : ((Heap.nil.set bx (bs l)).set b' (zeros [D.int IntKind.u8 0] (b.length + k))) bx = some (bs l) := by simp [Heap.set, h1, h2]
  rw [srcB hb hx hfit]
  have ht : (els 1 b.length (bs (l.drop off))).take b.length = els 1 b.length (bs (l.drop off)) := List.take_of_length_le (Nat.le_of_eq (els_length _ _ _))
  have hf : flat (els 1 b.length (bs (l.drop off))) = bs b := by rw [els1_bs _ _ (by rw [List.length_drop]; omega), hx]
  simp only [els_length, Nat.min_self, ht, hf, zeros_bs]
  refine ⟨trivial, bs_obj _, by rw [bs_length]; simp, ?_⟩
  refine finK_var2 (b := bx) (b' := b') (cs := bs l) (cs' := bs (b ++ List.replicate k 0)) ?_ ?_ ⟨b', h1, rfl, rfl, rfl⟩
  · simp [Heap.set, h1, h2]
  · simp only [Heap.set, if_true, splice, bs_take, bs_drop, bs_append, bs_length]
    simp [List.drop_replicate]

theorem number_so (b' : Nat) (out sp : List Nat) (n : Nat) (hr : (enc n).length ≤ sp.length) (hlen : out.length + sp.length ≤ 2^46) : VW P G 31 [.so b' 0 out.length (out.length + sp.length), .int .u64 n] b' (bs (out ++ sp)) (.so b' 0 (out.length + (enc n).length) (out.length + sp.length)) (bs (out ++ enc n ++ sp.drop (enc n).length)) := by
  unfold VW
  refine VC.ofs (fun _ => []) [4] mixed Try.func31 rfl rfl rfl rfl rfl (by simp) ?_
  simp only [go_sem, reduceIte, Nat.reduceEqDiff, Nat.reduceAdd, Nat.reduceSub, Nat.reduceMul, Nat.reduceLT, Nat.reduceLeDiff, Nat.reducePow, Int.reduceToNat, Int.reduceLT, Int.reduceLE, Int.reduceEq, Int.reduceNe, Int.reduceAdd, Int.reduceSub, Int.reduceMul, Int.reduceNeg]
  refine vwq_loop (fun s => ∃ (o q : List Nat) (m : Nat), s.σ 0 = .so b' 0 o.length (out.length + sp.length) ∧ s.σ 1 = .int .u64 m ∧ s.β = Heap.nil.set b' (bs (o ++ q)) ∧ s.ω = [] ∧ o.length + q.length = out.length + sp.length ∧ (enc m).length ≤ q.length ∧ o ++ enc m = out ++ enc n ∧ q.drop (enc m).length = sp.drop (enc n).length) (fun s => (ival (s.σ 1)).toNat) ⟨out, sp, n, rfl, rfl, rfl, rfl, rfl, hr, rfl, rfl⟩ ?_
  rintro σ β ω ⟨o, q, m, h0, h1, rfl, rfl, hc, hq, h2, h3⟩
  dsimp only at h0 h1
  simp only [go_sem, reduceIte, Nat.reduceEqDiff, Nat.reduceAdd, Nat.reduceSub, Nat.reduceMul, Nat.reduceLT, Nat.reduceLeDiff, Nat.reducePow, Int.reduceToNat, Int.reduceLT, Int.reduceLE, Int.reduceEq, Int.reduceNe, Int.reduceAdd, Int.reduceSub, Int.reduceMul, Int.reduceNeg, h0, h1]
  refine cd_dec (fun hn => ?_) (fun hn => ?_)
  · simp only [go_sem, reduceIte, Nat.reduceEqDiff, Nat.reduceAdd, Nat.reduceSub, Nat.reduceMul, Nat.reduceLT, Nat.reduceLeDiff, Nat.reducePow, Int.reduceToNat, Int.reduceLT, Int.reduceLE, Int.reduceEq, Int.reduceNe, Int.reduceAdd, Int.reduceSub, Int.reduceMul, Int.reduceNeg, h0, h1]
    have hb := enc_big (n := m) (by omega)
    rw [hb] at h2 h3 hq
    simp only [List.length_cons] at hq h3
    rw [or128]
    have sl := srcL (β := Heap.nil.set b' (bs (o ++ q))) .full [m % 128 + 128]
    have e : (m : Int) / 2 ^ shb .u64 7 = ((m / 128 : Nat) : Int) := by
      have : shb .u64 7 = 7 := rfl
      rw [this]; omega
    refine bapB (ys := [m % 128 + 128]) trivial (by simp [Heap.set]) rfl hc.symm sl (bs_flat _) rfl (by simp; omega) (by simp; omega) ?_
    rw [e]
    refine ⟨⟨o ++ [m % 128 + 128], q.drop 1, m / 128, by simp, rfl, by rw [set_set]; rfl, by simp; omega, by simp; omega, ?_, ?_⟩, by omega⟩
    · rw [← h2]; simp
    · rw [List.drop_drop, ← h3, Nat.add_comm]
  · simp only [go_sem, reduceIte, Nat.reduceEqDiff, Nat.reduceAdd, Nat.reduceSub, Nat.reduceMul, Nat.reduceLT, Nat.reduceLeDiff, Nat.reducePow, Int.reduceToNat, Int.reduceLT, Int.reduceLE, Int.reduceEq, Int.reduceNe, Int.reduceAdd, Int.reduceSub, Int.reduceMul, Int.reduceNeg, h0, h1]
    have hs := enc_small (n := m) (by omega)
    rw [hs] at h2 h3 hq
    simp only [List.length_cons, List.length_nil] at hq h3
    have sl := srcL (β := Heap.nil.set b' (bs (o ++ q))) .full [m]
    rw [show (m : Int) % 256 = m by omega]
    refine bapB (ys := [m]) trivial (by simp [Heap.set]) rfl hc.symm sl (bs_flat _) rfl (by simp; omega) (by simp; omega) ?_
    rw [set_set]
    have hl := congrArg List.length h2
    simp only [List.length_append, List.length_cons, List.length_nil] at hl
    refine finK_exact ⟨by rw [show o.length + [m].length = out.length + (enc n).length from hl], ?_, rfl⟩
    rw [← h2, ← h3]
    rfl

/-- A new row of bytes behind a number's encoding. -/
theorem U_so (bx off cap : Nat) (l b : List Nat) (n : Nat) (hx : (l.drop off).take b.length = b) (hfit : off + b.length ≤ l.length) (hn : (enc n).length ≤ 10) (hlen : b.length ≤ 2^45) :
    VB P G 13 [.so bx off b.length cap, .int .u64 n] bx (bs l) (fun b' => .so b' 0 (b.length + (enc n).length) (b.length + 10)) (bs (b ++ enc n ++ (List.replicate 10 0).drop (enc n).length)) := by
  have r : VB P G 32 [.so bx off b.length cap, .int .i64 10] bx (bs l) (fun b' => .so b' 0 b.length (b.length + 10)) (bs (b ++ List.replicate 10 0)) := room_so bx off cap l b 10 hx hfit (by omega)
  have nm := fun b' => number_so (G := G) b' b (List.replicate 10 0) n (by simpa using hn) (by simp; omega)
  simp only [List.length_replicate] at nm
  unfold VB
  refine VC.ofs (fun | 99999999 => [(0, [0, 1, 4])] | _ => []) [4] mixed Try.func13 rfl rfl rfl rfl (by decide +kernel) (by simp) ?_
  simp only [go_sem, reduceIte, Nat.reduceEqDiff, Nat.reduceAdd, Nat.reduceSub, Nat.reduceMul, Nat.reduceLT, Nat.reduceLeDiff, Nat.reducePow, Int.reduceToNat, Int.reduceLT, Int.reduceLE, Int.reduceEq, Int.reduceNe, Int.reduceAdd, Int.reduceSub, Int.reduceMul, Int.reduceNeg]
  refine cK_vb r (by simp [Heap.set]) fun b' hb' => ?_
  have ne : b' ≠ bx ∧ bx ≠ b' := by
    constructor <;> (rintro rfl; simp [Heap.set] at hb')
  simp only [go_sem, reduceIte, Nat.reduceEqDiff, Nat.reduceAdd, Nat.reduceSub, Nat.reduceMul, Nat.reduceLT, Nat.reduceLeDiff, Nat.reducePow, Int.reduceToNat, Int.reduceLT, Int.reduceLE, Int.reduceEq, Int.reduceNe, Int.reduceAdd, Int.reduceSub, Int.reduceMul, Int.reduceNeg]
  refine cK_vw (nm b') (by simp [Heap.set]) ?_
  simp only [go_sem, reduceIte, Nat.reduceEqDiff, Nat.reduceAdd, Nat.reduceSub, Nat.reduceMul, Nat.reduceLT, Nat.reduceLeDiff, Nat.reducePow, Int.reduceToNat, Int.reduceLT, Int.reduceLE, Int.reduceEq, Int.reduceNe, Int.reduceAdd, Int.reduceSub, Int.reduceMul, Int.reduceNeg]
  rw [set_set]
  exact finK_var2 (by simp [Heap.set, ne]) (by simp [Heap.set]) ⟨b', ne.1, rfl, rfl, rfl⟩
theorem S_so (bx off cap : Nat) (l b : List Nat) (k : Int) (hk : -9223372036854775808 ≤ k ∧ k < 9223372036854775808) (hx : (l.drop off).take b.length = b) (hfit : off + b.length ≤ l.length) (hn : (enc (zig k)).length ≤ 10) (hlen : b.length ≤ 2^45) :
    VB P G 15 [.so bx off b.length cap, .int .i64 k] bx (bs l) (fun b' => .so b' 0 (b.length + (enc (zig k)).length) (b.length + 10)) (bs (b ++ enc (zig k) ++ (List.replicate 10 0).drop (enc (zig k)).length)) := by
  have u := U_so (G := G) bx off cap l b (zig k) hx hfit hn hlen
  unfold VB
  refine VC.ofs (fun | 99999999 => [(0, [0, 1, 4])] | _ => []) [4] mixed Try.func15 rfl rfl rfl rfl (by decide +kernel) (by simp) ?_
  simp only [go_sem, reduceIte, Nat.reduceEqDiff, Nat.reduceAdd, Nat.reduceSub, Nat.reduceMul, Nat.reduceLT, Nat.reduceLeDiff, Nat.reducePow, Int.reduceToNat, Int.reduceLT, Int.reduceLE, Int.reduceEq, Int.reduceNe, Int.reduceAdd, Int.reduceSub, Int.reduceMul, Int.reduceNeg]
  rw [xor_zig k hk]
  refine cK_vb u (by simp [Heap.set]) fun b' hb' => ?_
  have ne : b' ≠ bx ∧ bx ≠ b' := by
    constructor <;> (rintro rfl; simp [Heap.set] at hb')
  simp only [go_sem, reduceIte, Nat.reduceEqDiff, Nat.reduceAdd, Nat.reduceSub, Nat.reduceMul, Nat.reduceLT, Nat.reduceLeDiff, Nat.reducePow, Int.reduceToNat, Int.reduceLT, Int.reduceLE, Int.reduceEq, Int.reduceNe, Int.reduceAdd, Int.reduceSub, Int.reduceMul, Int.reduceNeg]
  exact finK_var2 (by simp [Heap.set, ne]) (by simp [Heap.set]) ⟨b', ne.1, rfl, rfl, rfl⟩

theorem same_so (bx off cap : Nat) (t2 : Tk) (l x y : List Nat) (hx' : (l.drop off).take x.length = x) (hfit : off + x.length ≤ l.length) : VR P G 12 [.so bx off x.length cap, .sl t2 (bs y)] bx (bs l) (.bool (decide (x = y))) := by
  unfold VR VW
  refine VC.small fun hsm => ?_
  have hy : y.length ≤ 281474976710656 := by have := hsm (.sl t2 (bs y)) (by simp); simpa [Small, bs_length, mostLen] using this
  refine VC.ofs (fun | 6 => [(0, []), (1, []), (2, []), (3, []), (4, []), (5, []), (6, []), (7, []), (8, [])] | 99999999 => [(0, [0, 1, 4, 5, 10, 14, 25])] | _ => []) [4] mixed Try.func12 rfl rfl rfl rfl (by decide +kernel) (by simp) ?_
  simp only [go_sem, reduceIte, Nat.reduceEqDiff, Nat.reduceAdd, Nat.reduceSub, Nat.reduceMul, Nat.reduceLT, Nat.reduceLeDiff, Nat.reducePow, Int.reduceToNat, Int.reduceLT, Int.reduceLE, Int.reduceEq, Int.reduceNe, Int.reduceAdd, Int.reduceSub, Int.reduceMul, Int.reduceNeg, bs_length]
  refine cd_dec (fun h => ?_) (fun h => ?_)
  · simp only [go_sem, reduceIte, Nat.reduceEqDiff, Nat.reduceAdd, Nat.reduceSub, Nat.reduceMul, Nat.reduceLT, Nat.reduceLeDiff, Nat.reducePow, Int.reduceToNat, Int.reduceLT, Int.reduceLE, Int.reduceEq, Int.reduceNe, Int.reduceAdd, Int.reduceSub, Int.reduceMul, Int.reduceNeg]
    have : x ≠ y := fun e => h (by rw [e])
    exact finK_exact ⟨by simp [this], rfl, rfl⟩
  · simp only [go_sem, reduceIte, Nat.reduceEqDiff, Nat.reduceAdd, Nat.reduceSub, Nat.reduceMul, Nat.reduceLT, Nat.reduceLeDiff, Nat.reducePow, Int.reduceToNat, Int.reduceLT, Int.reduceLE, Int.reduceEq, Int.reduceNe, Int.reduceAdd, Int.reduceSub, Int.reduceMul, Int.reduceNeg]
    have hl : x.length = y.length := by omega
    refine vwq_loop (fun s => ∃ k : Nat, s.σ 0 = .so bx off x.length cap ∧ s.σ 1 = .sl t2 (bs y) ∧ s.σ 5 = .int .i64 k ∧ s.β = Heap.nil.set bx (bs l) ∧ s.ω = [] ∧ k ≤ x.length ∧ x.take k = y.take k) (fun s => x.length - (ival (s.σ 5)).toNat) ⟨0, rfl, rfl, rfl, rfl, rfl, by omega, by simp⟩ ?_
    rintro σ β ω ⟨k, h0, h1, h5, rfl, rfl, hk, ht⟩
    dsimp only at h0 h1 h5
    simp only [go_sem, reduceIte, Nat.reduceEqDiff, Nat.reduceAdd, Nat.reduceSub, Nat.reduceMul, Nat.reduceLT, Nat.reduceLeDiff, Nat.reducePow, Int.reduceToNat, Int.reduceLT, Int.reduceLE, Int.reduceEq, Int.reduceNe, Int.reduceAdd, Int.reduceSub, Int.reduceMul, Int.reduceNeg, h0, h1, h5, bs_length]
    refine cd_dec (fun h => ?_) (fun h => ?_)
    · have hk1 : k < x.length := by omega
      have hk2 : k < y.length := by omega
      have hob := bs_obj l
      have hat : (bs l).getD (off + k * 1) .any = .int .u8 ((x.getD k 0 : Nat) : Int) := by
        rw [Nat.mul_one, bs_at l (by omega)]
        have e : x[k]? = l[off + k]? := by
          have h3 : x[k]? = ((l.drop off).take x.length)[k]? := by rw [hx']
          rw [h3, List.getElem?_take, if_pos hk1, List.getElem?_drop]
        simp only [List.getD, e]
      have hbd : (off + k * 1 < l.length) = True := eq_true (by omega)
      have c1 : ((0 : Int) ≤ k) = True := eq_true (by omega)
      have c2 : ((k : Int) < x.length) = True := eq_true (by omega)
      simp only [go_sem, reduceIte, Nat.reduceEqDiff, Nat.reduceAdd, Nat.reduceSub, Nat.reduceMul, Nat.reduceLT, Nat.reduceLeDiff, Nat.reducePow, Int.reduceToNat, Int.reduceLT, Int.reduceLE, Int.reduceEq, Int.reduceNe, Int.reduceAdd, Int.reduceSub, Int.reduceMul, Int.reduceNeg, h0, h1, h5, bs_length, bs_at y hk2, hat, hob, hbd, c1, c2]
      refine ⟨by omega, cd_dec (fun hn => ?_) (fun hn => ?_)⟩
      · simp only [go_sem, reduceIte, Nat.reduceEqDiff, Nat.reduceAdd, Nat.reduceSub, Nat.reduceMul, Nat.reduceLT, Nat.reduceLeDiff, Nat.reducePow, Int.reduceToNat, Int.reduceLT, Int.reduceLE, Int.reduceEq, Int.reduceNe, Int.reduceAdd, Int.reduceSub, Int.reduceMul, Int.reduceNeg]
        refine finK_exact ⟨?_, rfl, rfl⟩
        have : x ≠ y := fun e => hn (by rw [e])
        simp [this]
      · simp only [go_sem, reduceIte, Nat.reduceEqDiff, Nat.reduceAdd, Nat.reduceSub, Nat.reduceMul, Nat.reduceLT, Nat.reduceLeDiff, Nat.reducePow, Int.reduceToNat, Int.reduceLT, Int.reduceLE, Int.reduceEq, Int.reduceNe, Int.reduceAdd, Int.reduceSub, Int.reduceMul, Int.reduceNeg, h0, h1, h5, ival_int]
        have he : x.getD k 0 = y.getD k 0 := by omega
        rw [wrap_i64 (by omega) (by omega)]
        refine ⟨⟨k + 1, by simp, by omega, ?_⟩, by omega⟩
        rw [List.take_add_one, List.take_add_one, ht]
        simp only [List.getD, List.getElem?_eq_getElem hk1, List.getElem?_eq_getElem hk2, Option.getD_some] at he
        rw [List.getElem?_eq_getElem hk1, List.getElem?_eq_getElem hk2, he]
    · simp only [go_sem, reduceIte, Nat.reduceEqDiff, Nat.reduceAdd, Nat.reduceSub, Nat.reduceMul, Nat.reduceLT, Nat.reduceLeDiff, Nat.reducePow, Int.reduceToNat, Int.reduceLT, Int.reduceLE, Int.reduceEq, Int.reduceNe, Int.reduceAdd, Int.reduceSub, Int.reduceMul, Int.reduceNeg, h0, h1, h5, bs_length]
      refine finK_exact ⟨?_, rfl, rfl⟩
      have hkx : k = x.length := by omega
      have : x = y := by
        rw [hkx, List.take_length] at ht
        rw [ht, hl, List.take_length]
      simp [this]
theorem readU_so (bx cap : Nat) (l b : List Nat) (at_ : Int) (hx' : l.take b.length = b) (hfit : b.length ≤ l.length) (hc : b.length ≤ cap) (hb : Byt b) (hlen : b.length ≤ 2^46) : VR P G 21 [.so bx 0 b.length cap, .int .i64 at_] bx (bs l) (tri (readU b at_)) := by
  unfold VR VW
  refine VC.ofs (fun | 99999999 => [(0, [0, 1, 4, 5, 6, 7, 8, 9, 10, 11, 19, 22, 23, 24, 25, 39, 46])] | _ => []) [4, 5, 6] mixed Try.func21 rfl rfl rfl rfl (by decide +kernel) (by simp) ?_
  simp only [go_sem, reduceIte, Nat.reduceEqDiff, Nat.reduceAdd, Nat.reduceSub, Nat.reduceMul, Nat.reduceLT, Nat.reduceLeDiff, Nat.reducePow, Int.reduceToNat, Int.reduceLT, Int.reduceLE, Int.reduceEq, Int.reduceNe, Int.reduceAdd, Int.reduceSub, Int.reduceMul, Int.reduceNeg]
  refine cd_dec (fun h => ?_) (fun h => ?_)
  · simp only [go_sem, reduceIte, Nat.reduceEqDiff, Nat.reduceAdd, Nat.reduceSub, Nat.reduceMul, Nat.reduceLT, Nat.reduceLeDiff, Nat.reducePow, Int.reduceToNat, Int.reduceLT, Int.reduceLE, Int.reduceEq, Int.reduceNe, Int.reduceAdd, Int.reduceSub, Int.reduceMul, Int.reduceNeg]
    exact finK_exact ⟨by simp [tri, readU, h], rfl, rfl⟩
  · simp only [go_sem, reduceIte, Nat.reduceEqDiff, Nat.reduceAdd, Nat.reduceSub, Nat.reduceMul, Nat.reduceLT, Nat.reduceLeDiff, Nat.reducePow, Int.reduceToNat, Int.reduceLT, Int.reduceLE, Int.reduceEq, Int.reduceNe, Int.reduceAdd, Int.reduceSub, Int.reduceMul, Int.reduceNeg]
    obtain ⟨k, rfl⟩ : ∃ k : Nat, at_ = k := ⟨at_.toNat, by omega⟩
    refine ⟨⟨by omega, by omega, by omega⟩, ?_⟩
    have hk : k ≤ b.length := by omega
    have hl : (b.drop k).length = b.length - k := by simp
    have hne := bs_length l
    obtain ⟨o, cp, h22, h23, hat, hbd⟩ : ∃ o cp, D.so bx (if cap = k then 0 else 0 + k * 1) (b.length - k) (cap - k) = .so bx o (b.drop k).length cp ∧ D.int .i64 ((b.length - k : Nat) : Int) = .int .i64 (b.drop k).length ∧
        (∀ i, i < (b.drop k).length → (bs l).getD (o + i * 1) .any = .int .u8 (((b.drop k).getD i 0 : Nat) : Int)) ∧ ∀ i, i < (b.drop k).length → (o + i * 1 < l.length) = True := by
      refine ⟨_, _, by rw [hl], by rw [hl], fun i hi => ?_, fun i hi => ?_⟩
      · rw [if_neg (by omega), Nat.mul_one, Nat.zero_add, Nat.mul_one, bs_at l (by omega)]
        have e : (b.drop k)[i]? = l[k + i]? := by
          rw [List.getElem?_drop]
          have h3 : b[k + i]? = (l.take b.length)[k + i]? := by rw [hx']
          rw [h3, List.getElem?_take, if_pos (by omega)]
        simp only [List.getD, e]
      · rw [if_neg (by omega)]
        exact eq_true (by omega)
    refine vwq_loop (fun s => ∃ (i n : Nat), s.σ 1 = .int .i64 k ∧ s.σ 22 = .so bx o (b.drop k).length cp ∧ s.σ 23 = .int .i64 (b.drop k).length ∧ s.σ 24 = .int .i64 i ∧ s.σ 7 = .int .u64 n ∧ s.σ 8 = .int .i64 6 ∧ s.β = Heap.nil.set bx (bs l) ∧ s.ω = [] ∧ i ≤ (b.drop k).length ∧ i ≤ 9 ∧ n < 2 ^ (7 * i) ∧ rd k ((b.drop k).drop i) i n = rd k (b.drop k) 0 0) (fun s => 9 - (ival (s.σ 24)).toNat) ?_ ?_
    · refine ⟨0, 0, rfl, ?_, ?_, rfl, rfl, rfl, rfl, rfl, by omega, by omega, by simp, by simp⟩
      · exact h22
      · exact h23
    clear h22 h23
    rintro σ β ω ⟨i, n, h1, h22, h23, h24, h7, h8, rfl, rfl, hi, hi9, hn, hrd⟩
    dsimp only at h1 h22 h23 h24 h7 h8
    simp only [go_sem, reduceIte, Nat.reduceEqDiff, Nat.reduceAdd, Nat.reduceSub, Nat.reduceMul, Nat.reduceLT, Nat.reduceLeDiff, Nat.reducePow, Int.reduceToNat, Int.reduceLT, Int.reduceLE, Int.reduceEq, Int.reduceNe, Int.reduceAdd, Int.reduceSub, Int.reduceMul, Int.reduceNeg, h1, h22, h23, h24, h7, h8]
    refine cd_dec (fun h => ?_) (fun h => ?_)
    · have hi' : i < (b.drop k).length := by omega
      have c1 : ((0 : Int) ≤ i) = True := eq_true (by omega)
      simp only [go_sem, reduceIte, Nat.reduceEqDiff, Nat.reduceAdd, Nat.reduceSub, Nat.reduceMul, Nat.reduceLT, Nat.reduceLeDiff, Nat.reducePow, Int.reduceToNat, Int.reduceLT, Int.reduceLE, Int.reduceEq, Int.reduceNe, Int.reduceAdd, Int.reduceSub, Int.reduceMul, Int.reduceNeg, h1, h22, h23, h24, h7, h8, hat i hi', bs_obj l, hbd i hi', bs_length, c1]
      have hc : (b.drop k).getD i 0 < 256 := by
        simp only [List.getD, List.getElem?_eq_getElem hi', Option.getD_some]
        exact hb _ (List.mem_of_mem_drop (List.getElem_mem hi'))
      have hdr : (b.drop k).drop i = (b.drop k).getD i 0 :: (b.drop k).drop (i + 1) := by
        rw [List.drop_eq_getElem_cons hi']
        simp [List.getD, List.getElem?_eq_getElem hi']
      generalize (b.drop k).getD i 0 = c at hc hdr ⊢
      rw [hdr] at hrd
      rw [wrap_i64 (x := 7 * (i : Int)) (by omega) (by omega)]
      have hru : readU b k = rd k (c :: (b.drop k).drop (i + 1)) i n := by
        unfold readU
        rw [if_neg (by omega)]
        exact hrd.symm
      refine ⟨by omega, by omega, cd_dec (fun h2 => ?_) (fun h2 => ?_)⟩
      · simp only [go_sem, reduceIte, Nat.reduceEqDiff, Nat.reduceAdd, Nat.reduceSub, Nat.reduceMul, Nat.reduceLT, Nat.reduceLeDiff, Nat.reducePow, Int.reduceToNat, Int.reduceLT, Int.reduceLE, Int.reduceEq, Int.reduceNe, Int.reduceAdd, Int.reduceSub, Int.reduceMul, Int.reduceNeg, h1, h22, h23, h24, h7, h8]
        have h3 : 128 ≤ c ∧ i ≠ 9 := by omega
        rw [wrap_i64 (x := (i : Int) + 1) (by omega) (by omega), acc n c i hc hi9 hn (by omega)]
        refine ⟨⟨i + 1, n + 2 ^ (7 * i) * (c % 128), rfl, rfl, by omega, by omega, ?_, ?_⟩, by omega⟩
        · have e : 2 ^ (7 * (i + 1)) = 2 ^ (7 * i) * 128 := by rw [Nat.mul_add, Nat.pow_add]
          have h4 : 2 ^ (7 * i) * (c % 128) ≤ 2 ^ (7 * i) * 127 := Nat.mul_le_mul_left _ (by omega)
          omega
        · rw [← hrd]
          simp only [rd, if_pos h3]
      · simp only [go_sem, reduceIte, Nat.reduceEqDiff, Nat.reduceAdd, Nat.reduceSub, Nat.reduceMul, Nat.reduceLT, Nat.reduceLeDiff, Nat.reducePow, Int.reduceToNat, Int.reduceLT, Int.reduceLE, Int.reduceEq, Int.reduceNe, Int.reduceAdd, Int.reduceSub, Int.reduceMul, Int.reduceNeg, h1, h22, h23, h24, h7, h8]
        have h3 : ¬ (128 ≤ c ∧ i ≠ 9) := by omega
        simp only [rd, if_neg h3] at hru
        have bad : (i = 9 ∧ 1 < c) ∨ (c = 0 ∧ 0 < i) → readU b k = (0, 0, 5) := fun h => by rw [hru, if_pos h]
        refine cd_dec (fun h4 => ?_) (fun h4 => ?_)
        · simp only [go_sem, reduceIte, Nat.reduceEqDiff, Nat.reduceAdd, Nat.reduceSub, Nat.reduceMul, Nat.reduceLT, Nat.reduceLeDiff, Nat.reducePow, Int.reduceToNat, Int.reduceLT, Int.reduceLE, Int.reduceEq, Int.reduceNe, Int.reduceAdd, Int.reduceSub, Int.reduceMul, Int.reduceNeg, h1, h22, h23, h24, h7, h8]
          refine cd_dec (fun h5 => ?_) (fun h5 => absurd h4 h5)
          simp only [go_sem, reduceIte, Nat.reduceEqDiff, Nat.reduceAdd, Nat.reduceSub, Nat.reduceMul, Nat.reduceLT, Nat.reduceLeDiff, Nat.reducePow, Int.reduceToNat, Int.reduceLT, Int.reduceLE, Int.reduceEq, Int.reduceNe, Int.reduceAdd, Int.reduceSub, Int.reduceMul, Int.reduceNeg, h1, h22, h23, h24, h7, h8]
          exact finK_exact ⟨by rw [bad (by omega)]; rfl, rfl, rfl⟩
        · simp only [go_sem, reduceIte, Nat.reduceEqDiff, Nat.reduceAdd, Nat.reduceSub, Nat.reduceMul, Nat.reduceLT, Nat.reduceLeDiff, Nat.reducePow, Int.reduceToNat, Int.reduceLT, Int.reduceLE, Int.reduceEq, Int.reduceNe, Int.reduceAdd, Int.reduceSub, Int.reduceMul, Int.reduceNeg, h1, h22, h23, h24, h7, h8]
          refine cd_dec (fun h5 => ?_) (fun h5 => ?_)
          · simp only [go_sem, reduceIte, Nat.reduceEqDiff, Nat.reduceAdd, Nat.reduceSub, Nat.reduceMul, Nat.reduceLT, Nat.reduceLeDiff, Nat.reducePow, Int.reduceToNat, Int.reduceLT, Int.reduceLE, Int.reduceEq, Int.reduceNe, Int.reduceAdd, Int.reduceSub, Int.reduceMul, Int.reduceNeg, h1, h22, h23, h24, h7, h8]
            exact finK_exact ⟨by rw [bad (by omega)]; rfl, rfl, rfl⟩
          · simp only [go_sem, reduceIte, Nat.reduceEqDiff, Nat.reduceAdd, Nat.reduceSub, Nat.reduceMul, Nat.reduceLT, Nat.reduceLeDiff, Nat.reducePow, Int.reduceToNat, Int.reduceLT, Int.reduceLE, Int.reduceEq, Int.reduceNe, Int.reduceAdd, Int.reduceSub, Int.reduceMul, Int.reduceNeg, h1, h22, h23, h24, h7, h8]
            have h6 : ¬ ((i = 9 ∧ 1 < c) ∨ (c = 0 ∧ 0 < i)) := by omega
            rw [if_neg h6] at hru
            rw [wrap_i64 (x := (k : Int) + i) (by omega) (by omega), wrap_i64 (by omega) (by omega), acc n c i hc hi9 hn (by omega), hru]
            exact finK_exact ⟨rfl, rfl, rfl⟩
    · simp only [go_sem, reduceIte, Nat.reduceEqDiff, Nat.reduceAdd, Nat.reduceSub, Nat.reduceMul, Nat.reduceLT, Nat.reduceLeDiff, Nat.reducePow, Int.reduceToNat, Int.reduceLT, Int.reduceLE, Int.reduceEq, Int.reduceNe, Int.reduceAdd, Int.reduceSub, Int.reduceMul, Int.reduceNeg, h1, h22, h23, h24, h7, h8]
      have hr : readU b k = (0, 0, 6) := by
        unfold readU
        rw [if_neg (by omega)]
        have : (k : Int).toNat = k := rfl
        rw [this, ← hrd, List.drop_of_length_le (by omega)]
        rfl
      exact finK_exact ⟨by rw [hr]; rfl, rfl, rfl⟩
theorem span_so (bx cap : Nat) (l b : List Nat) (at_ : Int) (hx' : l.take b.length = b) (hfit : b.length ≤ l.length) (hc : b.length ≤ cap) (hb : Byt b) (hlen : b.length ≤ 2^46) : VR P G 35 [.so bx 0 b.length cap, .int .i64 at_] bx (bs l) (triI (spanF b at_)) := by
  have hU := readU_so (G := G) bx cap l b at_ hx' hfit hc hb hlen
  have hs := readU_spec b at_ hb
  have hin := readU_in (b := b) (at_ := at_)
  unfold spanF
  generalize readU b at_ = r at hU hs hin ⊢
  obtain ⟨v, nx, er⟩ := r
  obtain ⟨h1, h2, h3, h4⟩ := hs
  simp only [tri] at hU h1 h2 h3 h4 hin ⊢
  unfold VR VW
  have hbx : (Heap.nil.set bx (bs l)) bx = some (bs l) := by simp [Heap.set]
  refine VC.ofs (fun | 99999999 => [(0, [0, 1, 4, 5, 6, 7, 8, 9, 17, 21, 24])] | _ => []) [4, 5, 6] mixed Try.func35 rfl rfl rfl rfl (by decide +kernel) (by simp) ?_
  simp only [go_sem, reduceIte, Nat.reduceEqDiff, Nat.reduceAdd, Nat.reduceSub, Nat.reduceMul, Nat.reduceLT, Nat.reduceLeDiff, Nat.reducePow, Int.reduceToNat, Int.reduceLT, Int.reduceLE, Int.reduceEq, Int.reduceNe, Int.reduceAdd, Int.reduceSub, Int.reduceMul, Int.reduceNeg]
  refine cK_vr hU hbx ?_
  simp only [go_sem, reduceIte, Nat.reduceEqDiff, Nat.reduceAdd, Nat.reduceSub, Nat.reduceMul, Nat.reduceLT, Nat.reduceLeDiff, Nat.reducePow, Int.reduceToNat, Int.reduceLT, Int.reduceLE, Int.reduceEq, Int.reduceNe, Int.reduceAdd, Int.reduceSub, Int.reduceMul, Int.reduceNeg]
  refine cd_dec (fun h => ?_) (fun h => ?_)
  · simp only [go_sem, reduceIte, Nat.reduceEqDiff, Nat.reduceAdd, Nat.reduceSub, Nat.reduceMul, Nat.reduceLT, Nat.reduceLeDiff, Nat.reducePow, Int.reduceToNat, Int.reduceLT, Int.reduceLE, Int.reduceEq, Int.reduceNe, Int.reduceAdd, Int.reduceSub, Int.reduceMul, Int.reduceNeg]
    have : er ≠ 0 := by omega
    rw [if_pos this]
    exact finK_exact ⟨rfl, rfl, rfl⟩
  · simp only [go_sem, reduceIte, Nat.reduceEqDiff, Nat.reduceAdd, Nat.reduceSub, Nat.reduceMul, Nat.reduceLT, Nat.reduceLeDiff, Nat.reducePow, Int.reduceToNat, Int.reduceLT, Int.reduceLE, Int.reduceEq, Int.reduceNe, Int.reduceAdd, Int.reduceSub, Int.reduceMul, Int.reduceNeg]
    have he : ¬ er ≠ 0 := by omega
    have he0 : er = 0 := by omega
    rw [if_neg he]
    refine cd_dec (fun h5 => ?_) (fun h5 => ?_)
    · simp only [go_sem, reduceIte, Nat.reduceEqDiff, Nat.reduceAdd, Nat.reduceSub, Nat.reduceMul, Nat.reduceLT, Nat.reduceLeDiff, Nat.reducePow, Int.reduceToNat, Int.reduceLT, Int.reduceLE, Int.reduceEq, Int.reduceNe, Int.reduceAdd, Int.reduceSub, Int.reduceMul, Int.reduceNeg]
      rw [if_pos (by omega)]
      exact finK_exact ⟨rfl, rfl, rfl⟩
    · simp only [go_sem, reduceIte, Nat.reduceEqDiff, Nat.reduceAdd, Nat.reduceSub, Nat.reduceMul, Nat.reduceLT, Nat.reduceLeDiff, Nat.reducePow, Int.reduceToNat, Int.reduceLT, Int.reduceLE, Int.reduceEq, Int.reduceNe, Int.reduceAdd, Int.reduceSub, Int.reduceMul, Int.reduceNeg]
      rw [if_neg (by omega)]
      have := h2 he0
      have := hin he0
      rw [wrap_i64 (x := (v : Int)) (by omega) (by omega), wrap_i64 (x := (b.length : Int) - nx) (by omega) (by omega)]
      refine cd_dec (fun h6 => ?_) (fun h6 => ?_)
      · simp only [go_sem, reduceIte, Nat.reduceEqDiff, Nat.reduceAdd, Nat.reduceSub, Nat.reduceMul, Nat.reduceLT, Nat.reduceLeDiff, Nat.reducePow, Int.reduceToNat, Int.reduceLT, Int.reduceLE, Int.reduceEq, Int.reduceNe, Int.reduceAdd, Int.reduceSub, Int.reduceMul, Int.reduceNeg]
        rw [if_pos (by omega)]
        exact finK_exact ⟨rfl, rfl, rfl⟩
      · simp only [go_sem, reduceIte, Nat.reduceEqDiff, Nat.reduceAdd, Nat.reduceSub, Nat.reduceMul, Nat.reduceLT, Nat.reduceLeDiff, Nat.reducePow, Int.reduceToNat, Int.reduceLT, Int.reduceLE, Int.reduceEq, Int.reduceNe, Int.reduceAdd, Int.reduceSub, Int.reduceMul, Int.reduceNeg]
        rw [if_neg (by omega)]
        rw [wrap_i64 (x := (v : Int)) (by omega) (by omega), wrap_i64 (x := (nx : Int) + v) (by omega) (by omega)]
        exact finK_exact ⟨rfl, rfl, rfl⟩
end Go.Proofs.YtdemkhcloholiaaS
