import Derived.Test.YtgkfcgfobckaaaaP4
set_option linter.unusedVariables false
set_option linter.unusedSimpArgs false
namespace Go.Proofs.YtgkfcgfobckaaaaS
open Go Go.Proofs.YtgkfcgfobckaaaaV

variable {G : Heap}
attribute [local irreducible] VN VC VX VQ

theorem flat_iD : ∀ l : List Int, flat (l.map iD) = l.map iD
  | [] => rfl
  | a :: l => by
    have := flat_iD l
    simp only [flat, List.map_cons, List.flatMap_cons] at this ⊢
    rw [this]; rfl
theorem zeros_iD : ∀ n : Nat, zeros [.int .i64 0] n = (List.replicate n (0 : Int)).map iD
  | 0 => rfl
  | n + 1 => by
    have := zeros_iD n
    simp only [zeros, List.replicate_succ, List.flatten_cons, List.map_cons] at this ⊢
    rw [this]; rfl
theorem isObj_iD (l : List Int) : isObj (l.map iD) = false := by
  cases l with
  | nil => rfl
  | cons a l => rfl
theorem elt40 : elt P 40 = some (1, 8) := by kernel_rfl
theorem zel40 : zel P 40 = some ([.int .i64 0], 8) := by kernel_rfl
theorem cut40 : cutk P 40 = some (1, 1, 0) := by kernel_rfl
theorem iD_solid (l : List Int) : ∀ x ∈ l.map iD, x.cells.length = 1 ∧ x.solid = true := fun x hx => by
  obtain ⟨y, _, rfl⟩ := List.mem_map.1 hx; exact ⟨rfl, rfl⟩
theorem srcI {β : Heap} (tk : Tk) (R : List Int) : srcOf P β 1 40 (.sl tk (R.map iD)) = (R.map iD, True) := by
  rw [srcOf_sl]
  simp only [vsrc, cut40, er_iD]
  rw [show (∀ d ∈ R.map iD, d.cells.length = 1 ∧ d.solid = true) = True from eq_true (iD_solid R)]
/-- A row of numbers that lies in a variable's cells. -/
def BoxI (β : Heap) (d : D) (xs : List Int) : Prop := ∃ (b : Nat) (f : List Int), d = .so b 0 xs.length f.length ∧ β b = some (f.map iD) ∧ f.take xs.length = xs ∧ xs.length ≤ f.length
def NotI (c : List D) : Prop := ∀ f : List Int, c ≠ f.map iD
theorem splice_iD {f g : List Int} {k : Nat} (h : k + g.length ≤ f.length) : splice (f.map iD) k (g.map iD) = (f.take k ++ g ++ f.drop (k + g.length)).map iD := by
  unfold splice
  simp [List.map_take, List.map_drop]
theorem bapI {P : Program} {t u : TypeId} {β : Heap} {x y : D} {ok : Prop} {new : Bool} {k : D → Heap → Prop} {xs R : List Int} (hel : elt P t = some (1, 8)) (hz : zel P t = some ([.int .i64 0], 8)) (hok : ok) (hx : (x = .sl .full [] ∧ xs = [] ∧ new = true ∧ 0 < R.length) ∨ BoxI β x xs) (hy : srcOf P β 1 u y = (R.map iD, True)) (hn : xs.length + R.length ≤ 1000)
    (hk : ∀ d β', BoxI β' d (xs ++ R) → (∀ b' c, β b' = some c → NotI c → β' b' = some c) → k d β') : bapK P t u x y ok new β k := by
  rw [bapK_at hel hz]
  refine ⟨hok, by decide, by simp, by rw [hy]; trivial, ?_⟩
  rw [hy]
  rcases hx with ⟨rfl, rfl, rfl, hR⟩ | ⟨b, f, rfl, hb, ht, hf⟩
  · refine ⟨rfl, by simp, by simp only [List.length_nil, List.length_map] at hn ⊢; omega, fun h => absurd h (by rw [List.length_map]; omega), fun _ cap' hc b' hb' => ?_⟩
    simp only [List.length_nil, List.length_map] at hc ⊢
    refine hk _ _ ⟨b', R ++ List.replicate (cap' - (0 + R.length)) 0, ?_, ?_, by simp, by simp⟩ ?_
    · simp; omega
    · simp only [Heap.set, if_true, flat_iD, zeros_iD]
      simp [flat]
    · intro b2 c hc hn
      have : b2 ≠ b' := fun e => by rw [e, hb'] at hc; cases hc
      simp only [Heap.set, if_neg this]; exact hc
  · simp only [bapR, hb, List.length_map]
    refine ⟨isObj_iD f, by simp, hf, by omega, fun hr => ?_, fun hr cap' hc b' hb' => ?_⟩
    · refine hk _ _ ⟨b, f.take xs.length ++ R ++ f.drop (xs.length + R.length), ?_, ?_, ?_, ?_⟩ ?_
      · simp; omega
      · simp only [Heap.set, if_true, flat_iD, Nat.zero_add, Nat.mul_one]
        rw [splice_iD (by omega)]
      · rw [ht, List.take_append_of_le_length (by simp), List.take_of_length_le (by simp)]
      · simp; omega
      · intro b2 c hc hn
        have : b2 ≠ b := fun e => by rw [e, hb] at hc; cases hc; exact hn _ rfl
        simp only [Heap.set, if_neg this]; exact hc
    · refine hk _ _ ⟨b', f.take xs.length ++ R ++ List.replicate (cap' - (xs.length + R.length)) 0, ?_, ?_, ?_, ?_⟩ ?_
      · simp; omega
      · simp only [Heap.set, if_true, flat_iD, List.drop_zero, Nat.mul_one, zeros_iD]
        simp [List.map_take]
      · rw [ht, List.take_append_of_le_length (by simp), List.take_of_length_le (by simp)]
      · simp; omega
      · intro b2 c hc hn
        have : b2 ≠ b' := fun e => by rw [e, hb'] at hc; cases hc
        simp only [Heap.set, if_neg this]; exact hc
def OutI (β : Heap) (d : D) (xs : List Int) : Prop := (d = .sl .full [] ∧ xs = []) ∨ BoxI β d xs
/-- A query without joins and columns. -/
def qC (op id agg col by_ : Int) : List D := [.int .i64 op, .int .i64 id, .int .i64 0, .int .i64 0, .sl .none [], .str ByteArray.empty, .sl .none [], .sl .none [], .int .i64 agg, .int .i64 col, .int .i64 by_, .sl .none []]
theorem qC_not (op id agg col by_ : Int) : NotI (qC op id agg col by_) := fun f h => by
  have := congrArg (fun l => l[4]?) h
  simp [qC] at this
  cases h4 : f[4]? with
  | none => rw [h4] at this; cases this
  | some v => rw [h4] at this; simp [iD] at this
theorem sl_not (d : D) (h : ∀ k, d ≠ iD k) : NotI [d] := fun f e => by
  cases f with
  | nil => cases e
  | cons a l => injection e with e _; exact h a e
theorem sl_not' (tk : Tk) (l : List D) : NotI [.sl tk l] := sl_not _ fun k h => by unfold iD at h; cases h
theorem so_not (b o n c : Nat) : NotI [.so b o n c] := sl_not _ fun k h => by unfold iD at h; cases h
theorem BoxI.keep {β β' : Heap} {d : D} {xs : List Int} (h : BoxI β d xs) {b' : Nat} {c c' : List D} (hb : β b' = some c) (hn : NotI c) (hβ : ∀ i, i ≠ b' → β' i = β i) : BoxI β' d xs := by
  obtain ⟨b, f, h1, h2, h3, h4⟩ := h
  refine ⟨b, f, h1, ?_, h3, h4⟩
  rw [hβ b fun e => by rw [e, hb] at h2; cases h2; exact hn _ rfl]
  exact h2
set_option maxRecDepth 100000 in
theorem add_ok {β : Heap} {ω : List Nat} {bq bo : Nat} {op id agg col by_ : Int} {d : D} {xs : List Int} (i : Int) (hq : β bq = some (qC op id agg col by_)) (ho : β bo = some [d]) (hx : OutI β d xs) (hn : xs.length ≤ 900) :
    VC P G 35 ([] ++ [.int .i64 i] ++ [.pb bq 0, .pb bo 0]) β ω fun o β' ω' => o = .ret (.tup []) ∧ β' bq = some (qC op id agg col by_) ∧ ∃ d', β' bo = some [d'] ∧ BoxI β' d' (xs ++ [i]) := by
  have hnq := qC_not op id agg col by_
  have hqo : bq ≠ bo ∧ bo ≠ bq := by
    constructor <;> (rintro rfl; rw [hq] at ho; cases ho)
  refine VC.ofsT (fun | 1 => [(0, []), (1, []), (2, []), (3, [777777]), (4, [])] | 99999999 => [(0, [0, 1, 2, 11])] | _ => []) [] mixed Try.func35 rfl rfl rfl rfl (by decide +kernel) (by simp) ?_
  have e11 : (qC op id agg col by_).getD 11 .any = .sl .none [] := rfl
  have ob : isObj (qC op id agg col by_) = false := rfl
  have ln : (qC op id agg col by_).length = 12 := rfl
  have hy : srcOf P β 1 40 (.sl .full [.int .i64 i]) = ([i].map iD, True) := srcI .full [i]
  rcases hx with ⟨rfl, rfl⟩ | hx
  · simp only [go_sem, reduceIte, Nat.reduceEqDiff, Nat.reduceAdd, Nat.reduceSub, Nat.reduceMul, Nat.reduceLT, Nat.reduceLeDiff, Nat.reducePow, Int.reduceToNat, Int.reduceLT, Int.reduceLE, Int.reduceEq, Int.reduceNe, Int.reduceAdd, Int.reduceSub, Int.reduceMul, Int.reduceNeg, hq, ho, e11, ob, ln]
    refine bapI (R := [i]) (xs := []) elt40 zel40 trivial (.inl ⟨rfl, rfl, rfl, by simp⟩) hy (by simp) fun d β' hd hk => ?_
    have ho' := hk bo _ ho (sl_not' _ _)
    have hq' := hk bq _ hq hnq
    obtain ⟨b', f', rfl, h3, h4, h5⟩ := hd
    simp only [go_sem, reduceIte, Nat.reduceEqDiff, Nat.reduceAdd, Nat.reduceSub, Nat.reduceMul, Nat.reduceLT, Nat.reduceLeDiff, Nat.reducePow, Int.reduceToNat, Int.reduceLT, Int.reduceLE, Int.reduceEq, Int.reduceNe, Int.reduceAdd, Int.reduceSub, Int.reduceMul, Int.reduceNeg, ho']
    refine finK_exact ⟨rfl, by simp [Heap.set, hqo, hq'], _, by simp [Heap.set], ⟨b', f', rfl, ?_, h4, h5⟩⟩
    have hne : b' ≠ bo := fun e => by rw [e, ho'] at h3; exact sl_not' _ _ _ (Option.some.inj h3)
    simp only [Heap.set, if_neg hne]; exact h3
  · have hx' := hx
    obtain ⟨b, f, rfl, hb, ht, hf⟩ := hx
    simp only [go_sem, reduceIte, Nat.reduceEqDiff, Nat.reduceAdd, Nat.reduceSub, Nat.reduceMul, Nat.reduceLT, Nat.reduceLeDiff, Nat.reducePow, Int.reduceToNat, Int.reduceLT, Int.reduceLE, Int.reduceEq, Int.reduceNe, Int.reduceAdd, Int.reduceSub, Int.reduceMul, Int.reduceNeg, hq, ho, e11, ob, ln]
    refine bapI (R := [i]) elt40 zel40 trivial (.inr hx') hy (by simp; omega) fun d β' hd hk => ?_
    have ho' := hk bo _ ho (so_not _ _ _ _)
    have hq' := hk bq _ hq hnq
    obtain ⟨b', f', rfl, h3, h4, h5⟩ := hd
    simp only [go_sem, reduceIte, Nat.reduceEqDiff, Nat.reduceAdd, Nat.reduceSub, Nat.reduceMul, Nat.reduceLT, Nat.reduceLeDiff, Nat.reducePow, Int.reduceToNat, Int.reduceLT, Int.reduceLE, Int.reduceEq, Int.reduceNe, Int.reduceAdd, Int.reduceSub, Int.reduceMul, Int.reduceNeg, ho']
    refine finK_exact ⟨rfl, by simp [Heap.set, hqo, hq'], _, by simp [Heap.set], ⟨b', f', rfl, ?_, h4, h5⟩⟩
    have hne : b' ≠ bo := fun e => by rw [e, ho'] at h3; exact so_not _ _ _ _ _ (Option.some.inj h3)
    simp only [Heap.set, if_neg hne]; exact h3
/-- The same with a row that has a token. -/
theorem addA_ok {β : Heap} {ω : List Nat} {bq bo t : Nat} {op id agg col by_ : Int} {xs : List Int} (i : Int) (hq : β bq = some (qC op id agg col by_)) (ho : β bo = some [.sl (.live t 1) (xs.map iD)]) (ht : t ∈ ω) (hn : xs.length ≤ 900) :
    VC P G 35 ([] ++ [.int .i64 i] ++ [.pb bq 0, .pb bo 0]) β ω fun o β' ω' => o = .ret (.tup []) ∧ β' bq = some (qC op id agg col by_) ∧ ∃ t', t' ∈ ω' ∧ β' bo = some [.sl (.live t' 1) ((xs ++ [i]).map iD)] := by
  have hqo : bq ≠ bo ∧ bo ≠ bq := by
    constructor <;> (rintro rfl; rw [hq] at ho; cases ho)
  refine VC.ofs (fun | 99999999 => [(0, [0, 1, 2, 11])] | _ => []) [] mixed Try.func35 rfl rfl rfl rfl (by decide +kernel) (by simp) ?_
  have e11 : (qC op id agg col by_).getD 11 .any = .sl .none [] := rfl
  have ob : isObj (qC op id agg col by_) = false := rfl
  have ln : (qC op id agg col by_).length = 12 := rfl
  have htk : tokOk 1 ω (.live t 1) = True := eq_true ⟨ht, rfl⟩
  simp only [go_sem, reduceIte, Nat.reduceEqDiff, Nat.reduceAdd, Nat.reduceSub, Nat.reduceMul, Nat.reduceLT, Nat.reduceLeDiff, Nat.reducePow, Int.reduceToNat, Int.reduceLT, Int.reduceLE, Int.reduceEq, Int.reduceNe, Int.reduceAdd, Int.reduceSub, Int.reduceMul, Int.reduceNeg, hq, ho, e11, ob, ln, htk]
  refine ⟨iD_cells _, by rw [List.length_map]; omega, fun t' ht' => ?_⟩
  refine finK_exact ⟨rfl, by simp [Heap.set, hqo, hq], t', List.mem_cons_self .., by simp [Heap.set]; rfl⟩
theorem CloneA_ok (x : Int) : VT0 P G 33 [.sl .none ([x].map iD)] fun t => .sl (.live t 1) ([x].map iD) := by
  unfold VT0
  refine VC.nilcmps (fun | 99999999 => [(0, [0, 2, 4])] | _ => []) [2] mixed Try.func33 rfl rfl rfl (by simp) (by decide +kernel) (by decide +kernel) Try.underlying40 ?_
  simp only [go_sem, reduceIte, Nat.reduceEqDiff, Nat.reduceAdd, Nat.reduceSub, Nat.reduceMul, Nat.reduceLT, Nat.reduceLeDiff, Nat.reducePow, Int.reduceToNat, Int.reduceLT, Int.reduceLE, Int.reduceEq, Int.reduceNe, Int.reduceAdd, Int.reduceSub, Int.reduceMul, Int.reduceNeg]
  refine ⟨_, _, rfl, fun b hb => ?_⟩
  cases b
  all_goals simp only [go_sem, reduceIte, Nat.reduceEqDiff, Nat.reduceAdd, Nat.reduceSub, Nat.reduceMul, Nat.reduceLT, Nat.reduceLeDiff, Nat.reducePow, Int.reduceToNat, Int.reduceLT, Int.reduceLE, Int.reduceEq, Int.reduceNe, Int.reduceAdd, Int.reduceSub, Int.reduceMul, Int.reduceNeg, cd_true, cd_false]
  · exact ⟨⟨rfl, rfl⟩, fun t => finK_exact ⟨t, rfl, rfl, rfl⟩⟩
  · have := hb rfl
    cases this
theorem CloneB_ok : VN P G 33 [.sl .none []] (.sl .full []) := by
  unfold VN
  refine VC.nilcmpsT (fun | 3 => [(0, []), (1, []), (2, [777777]), (3, [])] | 99999999 => [(0, [0, 2, 4])] | _ => []) [2] mixed Try.func33 rfl rfl rfl (by simp) (by decide +kernel) (by decide +kernel) Try.underlying40 ?_
  simp only [go_sem, reduceIte, Nat.reduceEqDiff, Nat.reduceAdd, Nat.reduceSub, Nat.reduceMul, Nat.reduceLT, Nat.reduceLeDiff, Nat.reducePow, Int.reduceToNat, Int.reduceLT, Int.reduceLE, Int.reduceEq, Int.reduceNe, Int.reduceAdd, Int.reduceSub, Int.reduceMul, Int.reduceNeg]
  refine ⟨_, _, rfl, fun b hb => ?_⟩
  cases b
  all_goals simp only [go_sem, reduceIte, Nat.reduceEqDiff, Nat.reduceAdd, Nat.reduceSub, Nat.reduceMul, Nat.reduceLT, Nat.reduceLeDiff, Nat.reducePow, Int.reduceToNat, Int.reduceLT, Int.reduceLE, Int.reduceEq, Int.reduceNe, Int.reduceAdd, Int.reduceSub, Int.reduceMul, Int.reduceNeg, cd_true, cd_false]
  · rw [bapK_at elt40 zel40]
    have hs := srcI (β := Heap.nil) .none []
    simp only [List.map_nil] at hs
    rw [hs]
    refine ⟨trivial, by decide, by decide, trivial, rfl, by simp, by decide, fun _ => finK_exact ⟨rfl, rfl, rfl⟩, fun h => absurd h (by decide)⟩
  · exact finK_exact ⟨rfl, rfl, rfl⟩
/-! Two numbers in a box are sorted. -/
def ordI (x y : Int) (rest : List Int) : List Int := if y < x then y :: x :: rest else x :: y :: rest
theorem insA_ok (tk : Tk) (x y : Int) (h : ¬ y < x) : VN P G 62 [.sl tk ([x, y].map iD), .int .i64 0, .int .i64 2] (.tup []) := by
  have hl := lessI_ok (G := G) y x
  unfold VN
  refine VC.ofs (fun | 4 => [(0, []), (1, []), (2, []), (3, []), (4, []), (5, []), (6, []), (7, []), (8, []), (9, []), (10, []), (11, []), (12, []), (13, []), (14, [])] | 6 => [(0, []), (1, []), (2, []), (3, []), (4, []), (5, []), (6, []), (7, []), (8, []), (9, []), (10, []), (11, []), (12, []), (13, []), (14, []), (15, []), (16, []), (17, [])] | 99999999 => [(0, [0, 1, 2, 6, 7, 12, 30])] | _ => []) [] mixed Try.func62 rfl rfl rfl rfl (by decide +kernel) (by simp) ?_
  simp only [go_sem, reduceIte, Nat.reduceEqDiff, Nat.reduceAdd, Nat.reduceSub, Nat.reduceMul, Nat.reduceLT, Nat.reduceLeDiff, Nat.reducePow, Int.reduceToNat, Int.reduceLT, Int.reduceLE, Int.reduceEq, Int.reduceNe, Int.reduceAdd, Int.reduceSub, Int.reduceMul, Int.reduceNeg]
  refine vwq_loop (fun v => ∃ j : Nat, 1 ≤ j ∧ j ≤ 2 ∧ v.σ 0 = .sl tk ([x, y].map iD) ∧ v.σ 1 = .int .i64 0 ∧ v.σ 2 = .int .i64 2 ∧ v.σ 6 = .int .i64 j ∧ v.β = Heap.nil ∧ v.ω = []) (fun v => 2 - (ival (v.σ 6)).toNat) ⟨1, by omega, by omega, rfl, rfl, rfl, rfl, rfl, rfl⟩ ?_
  rintro σ β ω ⟨j, hj1, hj2, q0, q1, q2, q6, rfl, rfl⟩
  dsimp only at q0 q1 q2 q6
  obtain rfl | rfl : j = 1 ∨ j = 2 := by omega
  · try simp only [go_sem, reduceIte, Nat.reduceEqDiff, Nat.reduceAdd, Nat.reduceSub, Nat.reduceMul, Nat.reduceLT, Nat.reduceLeDiff, Nat.reducePow, Int.reduceToNat, Int.reduceLT, Int.reduceLE, Int.reduceEq, Int.reduceNe, Int.reduceAdd, Int.reduceSub, Int.reduceMul, Int.reduceNeg, q0, q1, q2, q6]
    refine vwq_loop (fun v => v.σ 0 = .sl tk ([x, y].map iD) ∧ v.σ 1 = .int .i64 0 ∧ v.σ 2 = .int .i64 2 ∧ v.σ 6 = .int .i64 1 ∧ v.σ 7 = .int .i64 1 ∧ v.β = Heap.nil ∧ v.ω = []) (fun v => 0) ⟨rfl, rfl, rfl, rfl, rfl, rfl, rfl⟩ ?_
    rintro σ β ω ⟨q0, q1, q2, q6, q7, rfl, rfl⟩
    dsimp only at q0 q1 q2 q6 q7
    try simp only [go_sem, reduceIte, Nat.reduceEqDiff, Nat.reduceAdd, Nat.reduceSub, Nat.reduceMul, Nat.reduceLT, Nat.reduceLeDiff, Nat.reducePow, Int.reduceToNat, Int.reduceLT, Int.reduceLE, Int.reduceEq, Int.reduceNe, Int.reduceAdd, Int.reduceSub, Int.reduceMul, Int.reduceNeg, q0, q1, q2, q6, q7]
    refine ⟨rfl, Nat.one_pos, rfl, Nat.one_pos, ?_⟩
    simp only [iD] at *
    refine cE_vn hl ?_
    have h' := eq_false h
    try simp only [go_sem, reduceIte, Nat.reduceEqDiff, Nat.reduceAdd, Nat.reduceSub, Nat.reduceMul, Nat.reduceLT, Nat.reduceLeDiff, Nat.reducePow, Int.reduceToNat, Int.reduceLT, Int.reduceLE, Int.reduceEq, Int.reduceNe, Int.reduceAdd, Int.reduceSub, Int.reduceMul, Int.reduceNeg, q0, q1, q2, q6, q7, h', decide_false]
    exact ⟨2, by omega, by omega, rfl, rfl⟩
  · try simp only [go_sem, reduceIte, Nat.reduceEqDiff, Nat.reduceAdd, Nat.reduceSub, Nat.reduceMul, Nat.reduceLT, Nat.reduceLeDiff, Nat.reducePow, Int.reduceToNat, Int.reduceLT, Int.reduceLE, Int.reduceEq, Int.reduceNe, Int.reduceAdd, Int.reduceSub, Int.reduceMul, Int.reduceNeg, q0, q1, q2, q6]
    exact finK_drop ⟨rfl, rfl, rfl⟩
theorem pdqA_ok (tk : Tk) (x y : Int) (h : ¬ y < x) (m : Int) : VN P G 49 [.sl tk ([x, y].map iD), .int .i64 0, .int .i64 2, .int .i64 m] (.tup []) := by
  have h0 := insA_ok (G := G) tk x y h
  unfold VN
  refine VC.ofs (fun | 17 => [(0, []), (1, []), (2, []), (3, []), (4, []), (5, []), (6, []), (7, []), (8, []), (9, []), (10, []), (11, []), (12, []), (13, []), (14, [])] | 99999999 => [(0, [0, 1, 2, 3, 8, 9, 10, 11, 12, 13, 14, 15, 16, 17, 18, 23, 29, 35, 50, 68, 72, 87, 113])] | _ => []) [] mixed Try.func49 rfl rfl rfl rfl (by decide +kernel) (by simp) ?_
  simp only [go_sem, reduceIte, Nat.reduceEqDiff, Nat.reduceAdd, Nat.reduceSub, Nat.reduceMul, Nat.reduceLT, Nat.reduceLeDiff, Nat.reducePow, Int.reduceToNat, Int.reduceLT, Int.reduceLE, Int.reduceEq, Int.reduceNe, Int.reduceAdd, Int.reduceSub, Int.reduceMul, Int.reduceNeg]
  refine vwq_loop (fun v => v.σ 0 = .sl tk ([x, y].map iD) ∧ v.σ 1 = .int .i64 0 ∧ v.σ 2 = .int .i64 2 ∧ v.β = Heap.nil ∧ v.ω = []) (fun _ => 0) ⟨rfl, rfl, rfl, rfl, rfl⟩ ?_
  rintro σ β ω ⟨q0, q1, q2, rfl, rfl⟩
  dsimp only at q0 q1 q2
  try simp only [go_sem, reduceIte, Nat.reduceEqDiff, Nat.reduceAdd, Nat.reduceSub, Nat.reduceMul, Nat.reduceLT, Nat.reduceLeDiff, Nat.reducePow, Int.reduceToNat, Int.reduceLT, Int.reduceLE, Int.reduceEq, Int.reduceNe, Int.reduceAdd, Int.reduceSub, Int.reduceMul, Int.reduceNeg, q0, q1, q2]
  refine cK_vn h0 ?_
  try simp only [go_sem, reduceIte, Nat.reduceEqDiff, Nat.reduceAdd, Nat.reduceSub, Nat.reduceMul, Nat.reduceLT, Nat.reduceLeDiff, Nat.reducePow, Int.reduceToNat, Int.reduceLT, Int.reduceLE, Int.reduceEq, Int.reduceNe, Int.reduceAdd, Int.reduceSub, Int.reduceMul, Int.reduceNeg, q0, q1, q2]
  exact finK_drop ⟨rfl, rfl, rfl⟩
theorem SortA_ok (tk : Tk) (x y : Int) (h : ¬ y < x) : VN P G 36 [.sl tk ([x, y].map iD)] (.tup []) := by
  have h0 := fun m => pdqA_ok (G := G) tk x y h m
  have h1 := Len_ok (G := G) 2 (by omega)
  unfold VN
  refine VC.ofs (fun | 99999999 => [(0, [0, 2])] | _ => []) [] mixed Try.func36 rfl rfl rfl rfl (by decide +kernel) (by simp) ?_
  simp only [go_sem, reduceIte, Nat.reduceEqDiff, Nat.reduceAdd, Nat.reduceSub, Nat.reduceMul, Nat.reduceLT, Nat.reduceLeDiff, Nat.reducePow, Int.reduceToNat, Int.reduceLT, Int.reduceLE, Int.reduceEq, Int.reduceNe, Int.reduceAdd, Int.reduceSub, Int.reduceMul, Int.reduceNeg]
  refine cK_vn h1 ?_
  simp only [go_sem, reduceIte, Nat.reduceEqDiff, Nat.reduceAdd, Nat.reduceSub, Nat.reduceMul, Nat.reduceLT, Nat.reduceLeDiff, Nat.reducePow, Int.reduceToNat, Int.reduceLT, Int.reduceLE, Int.reduceEq, Int.reduceNe, Int.reduceAdd, Int.reduceSub, Int.reduceMul, Int.reduceNeg]
  refine cK_vn (h0 _) ?_
  simp only [go_sem, reduceIte, Nat.reduceEqDiff, Nat.reduceAdd, Nat.reduceSub, Nat.reduceMul, Nat.reduceLT, Nat.reduceLeDiff, Nat.reducePow, Int.reduceToNat, Int.reduceLT, Int.reduceLE, Int.reduceEq, Int.reduceNe, Int.reduceAdd, Int.reduceSub, Int.reduceMul, Int.reduceNeg]
  exact finK_drop ⟨rfl, rfl, rfl⟩
theorem CompactA_ok (tk : Tk) (x y : Int) (h : y ≠ x) : VN P G 37 [.sl tk ([x, y].map iD)] (.sl .none ([x, y].map iD)) := by
  unfold VN
  refine VC.ofs (fun | 6 => [(0, []), (1, []), (2, []), (3, []), (4, []), (5, []), (6, []), (7, []), (8, []), (9, [])] | 11 => [(0, []), (1, []), (2, []), (3, []), (4, []), (5, []), (6, []), (7, []), (8, []), (9, [])] | 99999999 => [(0, [0, 2, 3, 4, 5, 8, 13, 25, 32, 44])] | _ => []) [2] mixed Try.func37 rfl rfl rfl rfl (by decide +kernel) (by simp) ?_
  simp only [go_sem, reduceIte, Nat.reduceEqDiff, Nat.reduceAdd, Nat.reduceSub, Nat.reduceMul, Nat.reduceLT, Nat.reduceLeDiff, Nat.reducePow, Int.reduceToNat, Int.reduceLT, Int.reduceLE, Int.reduceEq, Int.reduceNe, Int.reduceAdd, Int.reduceSub, Int.reduceMul, Int.reduceNeg]
  refine vwq_loop (fun v => ∃ j : Nat, 1 ≤ j ∧ j ≤ 2 ∧ v.σ 0 = .sl tk ([x, y].map iD) ∧ v.σ 3 = .int .i64 j ∧ v.β = Heap.nil ∧ v.ω = []) (fun v => 2 - (ival (v.σ 3)).toNat) ⟨1, by omega, by omega, rfl, rfl, rfl, rfl⟩ ?_
  rintro σ β ω ⟨j, hj1, hj2, q0, q3, rfl, rfl⟩
  dsimp only at q0 q3
  obtain rfl | rfl : j = 1 ∨ j = 2 := by omega
  · have h' := eq_false h
    try simp only [go_sem, reduceIte, Nat.reduceEqDiff, Nat.reduceAdd, Nat.reduceSub, Nat.reduceMul, Nat.reduceLT, Nat.reduceLeDiff, Nat.reducePow, Int.reduceToNat, Int.reduceLT, Int.reduceLE, Int.reduceEq, Int.reduceNe, Int.reduceAdd, Int.reduceSub, Int.reduceMul, Int.reduceNeg, q0, q3, iD, List.map_cons, List.map_nil, h']
    exact ⟨2, by omega, by omega, rfl⟩
  · try simp only [go_sem, reduceIte, Nat.reduceEqDiff, Nat.reduceAdd, Nat.reduceSub, Nat.reduceMul, Nat.reduceLT, Nat.reduceLeDiff, Nat.reducePow, Int.reduceToNat, Int.reduceLT, Int.reduceLE, Int.reduceEq, Int.reduceNe, Int.reduceAdd, Int.reduceSub, Int.reduceMul, Int.reduceNeg, q0, q3]
    exact finK_drop ⟨rfl, rfl, rfl⟩
theorem row2_0 (x y : Int) (rest : List Int) : ((x :: y :: rest).map iD).getD 0 .any = .int .i64 x := rfl
theorem row2_1 (x y : Int) (rest : List Int) : ((x :: y :: rest).map iD).getD 1 .any = .int .i64 y := rfl
theorem row2_l (x y : Int) (rest : List Int) : ((x :: y :: rest).map iD).length = rest.length + 2 := by simp
theorem insB_ok (b : Nat) (x y : Int) (rest : List Int) : VW P G 62 [.so b 0 2 (rest.length + 2), .int .i64 0, .int .i64 2] b ((x :: y :: rest).map iD) (.tup []) ((ordI x y rest).map iD) := by
  have hl := lessI_ok (G := G) y x
  unfold VW
  refine VC.ofs (fun | 4 => [(0, []), (1, []), (2, []), (3, []), (4, []), (5, []), (6, []), (7, []), (8, []), (9, []), (10, []), (11, []), (12, []), (13, []), (14, [])] | 6 => [(0, []), (1, []), (2, []), (3, []), (4, []), (5, []), (6, []), (7, []), (8, []), (9, []), (10, []), (11, []), (12, []), (13, []), (14, []), (15, []), (16, []), (17, [])] | 99999999 => [(0, [0, 1, 2, 6, 7, 12, 30])] | _ => []) [] mixed Try.func62 rfl rfl rfl rfl (by decide +kernel) (by simp) ?_
  simp only [go_sem, reduceIte, Nat.reduceEqDiff, Nat.reduceAdd, Nat.reduceSub, Nat.reduceMul, Nat.reduceLT, Nat.reduceLeDiff, Nat.reducePow, Int.reduceToNat, Int.reduceLT, Int.reduceLE, Int.reduceEq, Int.reduceNe, Int.reduceAdd, Int.reduceSub, Int.reduceMul, Int.reduceNeg]
  refine vwq_loop (fun v => ∃ j : Nat, 1 ≤ j ∧ j ≤ 2 ∧ v.σ 0 = .so b 0 2 (rest.length + 2) ∧ v.σ 1 = .int .i64 0 ∧ v.σ 2 = .int .i64 2 ∧ v.σ 6 = .int .i64 j ∧ v.β = Heap.nil.set b ((if j = 1 then x :: y :: rest else ordI x y rest).map iD) ∧ v.ω = []) (fun v => 2 - (ival (v.σ 6)).toNat) ⟨1, by omega, by omega, rfl, rfl, rfl, rfl, rfl, rfl⟩ ?_
  rintro σ β ω ⟨j, hj1, hj2, q0, q1, q2, q6, e, rfl⟩
  dsimp only at q0 q1 q2 q6 e
  obtain rfl | rfl : j = 1 ∨ j = 2 := by omega
  · rw [if_pos rfl] at e
    try simp only [go_sem, reduceIte, Nat.reduceEqDiff, Nat.reduceAdd, Nat.reduceSub, Nat.reduceMul, Nat.reduceLT, Nat.reduceLeDiff, Nat.reducePow, Int.reduceToNat, Int.reduceLT, Int.reduceLE, Int.reduceEq, Int.reduceNe, Int.reduceAdd, Int.reduceSub, Int.reduceMul, Int.reduceNeg, q0, q1, q2, q6]
    refine vwq_loop (fun v => ∃ k : Nat, k ≤ 1 ∧ v.σ 0 = .so b 0 2 (rest.length + 2) ∧ v.σ 1 = .int .i64 0 ∧ v.σ 2 = .int .i64 2 ∧ v.σ 6 = .int .i64 1 ∧ v.σ 7 = .int .i64 k ∧ (k = 0 → y < x) ∧ v.β = Heap.nil.set b ((if k = 1 then x :: y :: rest else y :: x :: rest).map iD) ∧ v.ω = []) (fun v => (ival (v.σ 7)).toNat) ⟨1, by omega, rfl, rfl, rfl, rfl, rfl, by omega, e, rfl⟩ ?_
    clear e
    rintro σ β ω ⟨k, hk, q0, q1, q2, q6, q7, hlt, rfl, rfl⟩
    dsimp only at q0 q1 q2 q6 q7
    obtain rfl | rfl : k = 0 ∨ k = 1 := by omega
    · try simp only [go_sem, reduceIte, Nat.reduceEqDiff, Nat.reduceAdd, Nat.reduceSub, Nat.reduceMul, Nat.reduceLT, Nat.reduceLeDiff, Nat.reducePow, Int.reduceToNat, Int.reduceLT, Int.reduceLE, Int.reduceEq, Int.reduceNe, Int.reduceAdd, Int.reduceSub, Int.reduceMul, Int.reduceNeg, q0, q1, q2, q6, q7]
      exact ⟨2, by omega, by omega, rfl, by rw [if_neg (by decide), ordI, if_pos (hlt rfl)]; rfl⟩
    · try simp only [go_sem, reduceIte, Nat.reduceEqDiff, Nat.reduceAdd, Nat.reduceSub, Nat.reduceMul, Nat.reduceLT, Nat.reduceLeDiff, Nat.reducePow, Int.reduceToNat, Int.reduceLT, Int.reduceLE, Int.reduceEq, Int.reduceNe, Int.reduceAdd, Int.reduceSub, Int.reduceMul, Int.reduceNeg, q0, q1, q2, q6, q7, row2_0, row2_1, row2_l, isObj_iD]
      refine ⟨by omega, by omega, ?_⟩
      simp only [iD] at *
      refine cE_vn hl ?_
      by_cases hyx : y < x
      · have h' := eq_true hyx
        try simp only [go_sem, reduceIte, Nat.reduceEqDiff, Nat.reduceAdd, Nat.reduceSub, Nat.reduceMul, Nat.reduceLT, Nat.reduceLeDiff, Nat.reducePow, Int.reduceToNat, Int.reduceLT, Int.reduceLE, Int.reduceEq, Int.reduceNe, Int.reduceAdd, Int.reduceSub, Int.reduceMul, Int.reduceNeg, q0, q1, q2, q6, q7, h', decide_true]
        refine ⟨by omega, by omega, 0, by omega, rfl, ?_⟩
        simp only [set_set']
        rfl
      · have h' := eq_false hyx
        try simp only [go_sem, reduceIte, Nat.reduceEqDiff, Nat.reduceAdd, Nat.reduceSub, Nat.reduceMul, Nat.reduceLT, Nat.reduceLeDiff, Nat.reducePow, Int.reduceToNat, Int.reduceLT, Int.reduceLE, Int.reduceEq, Int.reduceNe, Int.reduceAdd, Int.reduceSub, Int.reduceMul, Int.reduceNeg, q0, q1, q2, q6, q7, h', decide_false]
        exact ⟨2, by omega, by omega, rfl, by rw [if_neg (by decide), ordI, if_neg hyx]; rfl⟩
  · rw [if_neg (by decide)] at e
    subst e
    try simp only [go_sem, reduceIte, Nat.reduceEqDiff, Nat.reduceAdd, Nat.reduceSub, Nat.reduceMul, Nat.reduceLT, Nat.reduceLeDiff, Nat.reducePow, Int.reduceToNat, Int.reduceLT, Int.reduceLE, Int.reduceEq, Int.reduceNe, Int.reduceAdd, Int.reduceSub, Int.reduceMul, Int.reduceNeg, q0, q1, q2, q6]
    exact finK_exact ⟨rfl, rfl, rfl⟩
theorem pdqB_ok (b : Nat) (x y : Int) (rest : List Int) (m : Int) : VW P G 49 [.so b 0 2 (rest.length + 2), .int .i64 0, .int .i64 2, .int .i64 m] b ((x :: y :: rest).map iD) (.tup []) ((ordI x y rest).map iD) := by
  have h0 := insB_ok (G := G) b x y rest
  unfold VW
  refine VC.ofs (fun | 17 => [(0, []), (1, []), (2, []), (3, []), (4, []), (5, []), (6, []), (7, []), (8, []), (9, []), (10, []), (11, []), (12, []), (13, []), (14, [])] | 99999999 => [(0, [0, 1, 2, 3, 8, 9, 10, 11, 12, 13, 14, 15, 16, 17, 18, 23, 29, 35, 50, 68, 72, 87, 113])] | _ => []) [] mixed Try.func49 rfl rfl rfl rfl (by decide +kernel) (by simp) ?_
  simp only [go_sem, reduceIte, Nat.reduceEqDiff, Nat.reduceAdd, Nat.reduceSub, Nat.reduceMul, Nat.reduceLT, Nat.reduceLeDiff, Nat.reducePow, Int.reduceToNat, Int.reduceLT, Int.reduceLE, Int.reduceEq, Int.reduceNe, Int.reduceAdd, Int.reduceSub, Int.reduceMul, Int.reduceNeg]
  refine vwq_loop (fun v => v.σ 0 = .so b 0 2 (rest.length + 2) ∧ v.σ 1 = .int .i64 0 ∧ v.σ 2 = .int .i64 2 ∧ v.β = Heap.nil.set b ((x :: y :: rest).map iD) ∧ v.ω = []) (fun _ => 0) ⟨rfl, rfl, rfl, rfl, rfl⟩ ?_
  rintro σ β ω ⟨q0, q1, q2, rfl, rfl⟩
  dsimp only at q0 q1 q2
  try simp only [go_sem, reduceIte, Nat.reduceEqDiff, Nat.reduceAdd, Nat.reduceSub, Nat.reduceMul, Nat.reduceLT, Nat.reduceLeDiff, Nat.reducePow, Int.reduceToNat, Int.reduceLT, Int.reduceLE, Int.reduceEq, Int.reduceNe, Int.reduceAdd, Int.reduceSub, Int.reduceMul, Int.reduceNeg, q0, q1, q2]
  refine cK_vw h0 (by simp [Heap.set]) ?_
  try simp only [go_sem, reduceIte, Nat.reduceEqDiff, Nat.reduceAdd, Nat.reduceSub, Nat.reduceMul, Nat.reduceLT, Nat.reduceLeDiff, Nat.reducePow, Int.reduceToNat, Int.reduceLT, Int.reduceLE, Int.reduceEq, Int.reduceNe, Int.reduceAdd, Int.reduceSub, Int.reduceMul, Int.reduceNeg, q0, q1, q2]
  exact finK_exact ⟨rfl, by rw [set_set'], rfl⟩
theorem SortB_ok (b : Nat) (x y : Int) (rest : List Int) : VW P G 36 [.so b 0 2 (rest.length + 2)] b ((x :: y :: rest).map iD) (.tup []) ((ordI x y rest).map iD) := by
  have h0 := fun m => pdqB_ok (G := G) b x y rest m
  have h1 := Len_ok (G := G) 2 (by omega)
  unfold VW
  refine VC.ofs (fun | 99999999 => [(0, [0, 2])] | _ => []) [] mixed Try.func36 rfl rfl rfl rfl (by decide +kernel) (by simp) ?_
  simp only [go_sem, reduceIte, Nat.reduceEqDiff, Nat.reduceAdd, Nat.reduceSub, Nat.reduceMul, Nat.reduceLT, Nat.reduceLeDiff, Nat.reducePow, Int.reduceToNat, Int.reduceLT, Int.reduceLE, Int.reduceEq, Int.reduceNe, Int.reduceAdd, Int.reduceSub, Int.reduceMul, Int.reduceNeg]
  refine cK_vn h1 ?_
  simp only [go_sem, reduceIte, Nat.reduceEqDiff, Nat.reduceAdd, Nat.reduceSub, Nat.reduceMul, Nat.reduceLT, Nat.reduceLeDiff, Nat.reducePow, Int.reduceToNat, Int.reduceLT, Int.reduceLE, Int.reduceEq, Int.reduceNe, Int.reduceAdd, Int.reduceSub, Int.reduceMul, Int.reduceNeg]
  refine cK_vw (h0 _) (by simp [Heap.set]) ?_
  simp only [go_sem, reduceIte, Nat.reduceEqDiff, Nat.reduceAdd, Nat.reduceSub, Nat.reduceMul, Nat.reduceLT, Nat.reduceLeDiff, Nat.reducePow, Int.reduceToNat, Int.reduceLT, Int.reduceLE, Int.reduceEq, Int.reduceNe, Int.reduceAdd, Int.reduceSub, Int.reduceMul, Int.reduceNeg]
  exact finK_exact ⟨rfl, by rw [set_set'], rfl⟩
theorem CompactB_ok (b : Nat) (x y : Int) (rest : List Int) (h : y ≠ x) : VR P G 37 [.so b 0 2 (rest.length + 2)] b ((x :: y :: rest).map iD) (.so b 0 2 (rest.length + 2)) := by
  unfold VR VW
  refine VC.ofs (fun | 6 => [(0, []), (1, []), (2, []), (3, []), (4, []), (5, []), (6, []), (7, []), (8, []), (9, [])] | 11 => [(0, []), (1, []), (2, []), (3, []), (4, []), (5, []), (6, []), (7, []), (8, []), (9, [])] | 99999999 => [(0, [0, 2, 3, 4, 5, 8, 13, 25, 32, 44])] | _ => []) [2] mixed Try.func37 rfl rfl rfl rfl (by decide +kernel) (by simp) ?_
  simp only [go_sem, reduceIte, Nat.reduceEqDiff, Nat.reduceAdd, Nat.reduceSub, Nat.reduceMul, Nat.reduceLT, Nat.reduceLeDiff, Nat.reducePow, Int.reduceToNat, Int.reduceLT, Int.reduceLE, Int.reduceEq, Int.reduceNe, Int.reduceAdd, Int.reduceSub, Int.reduceMul, Int.reduceNeg]
  refine vwq_loop (fun v => ∃ j : Nat, 1 ≤ j ∧ j ≤ 2 ∧ v.σ 0 = .so b 0 2 (rest.length + 2) ∧ v.σ 3 = .int .i64 j ∧ v.β = Heap.nil.set b ((x :: y :: rest).map iD) ∧ v.ω = []) (fun v => 2 - (ival (v.σ 3)).toNat) ⟨1, by omega, by omega, rfl, rfl, rfl, rfl⟩ ?_
  rintro σ β ω ⟨j, hj1, hj2, q0, q3, rfl, rfl⟩
  dsimp only at q0 q3
  obtain rfl | rfl : j = 1 ∨ j = 2 := by omega
  · have h' := eq_false h
    try simp only [go_sem, reduceIte, Nat.reduceEqDiff, Nat.reduceAdd, Nat.reduceSub, Nat.reduceMul, Nat.reduceLT, Nat.reduceLeDiff, Nat.reducePow, Int.reduceToNat, Int.reduceLT, Int.reduceLE, Int.reduceEq, Int.reduceNe, Int.reduceAdd, Int.reduceSub, Int.reduceMul, Int.reduceNeg, q0, q3, iD, List.map_cons, List.map_nil, h']
    refine ⟨by omega, by omega, ⟨2, by omega, by omega, rfl⟩⟩
  · try simp only [go_sem, reduceIte, Nat.reduceEqDiff, Nat.reduceAdd, Nat.reduceSub, Nat.reduceMul, Nat.reduceLT, Nat.reduceLeDiff, Nat.reducePow, Int.reduceToNat, Int.reduceLT, Int.reduceLE, Int.reduceEq, Int.reduceNe, Int.reduceAdd, Int.reduceSub, Int.reduceMul, Int.reduceNeg, q0, q3]
    exact finK_exact ⟨rfl, rfl, rfl⟩
theorem qC_7 (op id agg col by_ : Int) : (qC op id agg col by_).take 7 = (Pr.mk op id 0 0 [] ByteArray.empty []).cells := rfl
theorem qC_o (op id agg col by_ : Int) : isObj (qC op id agg col by_) = false := rfl
theorem qC_l (op id agg col by_ : Int) : (qC op id agg col by_).length = 12 := rfl
theorem qC_8 (op id agg col by_ : Int) : (qC op id agg col by_).getD 8 .any = .int .i64 agg := rfl
theorem qC_9 (op id agg col by_ : Int) : (qC op id agg col by_).getD 9 .any = .int .i64 col := rfl
theorem qC_10 (op id agg col by_ : Int) : (qC op id agg col by_).getD 10 .any = .int .i64 by_ := rfl
theorem qC_11 (op id agg col by_ : Int) : (qC op id agg col by_).getD 11 .any = .sl .none [] := rfl
theorem NeededA_ok (op id col : Int) (h1 : 1 ≤ op ∧ op ≤ 4) (h : id < col) : VN P G 21 [.agg (qC op id 2 col 0)] (.sl .none ([id, col].map iD)) := by
  have hf : VN P G 34 [.agg (Pr.mk op id 0 0 [] ByteArray.empty []).cells] (.sl .none ([id].map iD)) := by
    have := Fields_ok (G := G) (.mk op id 0 0 [] ByteArray.empty []) rfl
    rw [if_pos (show 1 ≤ (Pr.mk op id 0 0 [] ByteArray.empty []).op ∧ (Pr.mk op id 0 0 [] ByteArray.empty []).op ≤ 4 from h1)] at this
    exact this
  have hcl := CloneA_ok (G := G) id
  unfold VN
  refine VC.ofs (fun | 12 => [(0, []), (1, []), (2, []), (3, []), (4, []), (5, []), (6, []), (7, []), (8, [])] | 99999999 => [(0, [0, 1, 2, 3, 4, 11, 12, 18, 28, 37])] | _ => []) [2] mixed Try.func21 rfl rfl rfl rfl (by decide +kernel) (by simp) ?_
  simp only [go_sem, reduceIte, Nat.reduceEqDiff, Nat.reduceAdd, Nat.reduceSub, Nat.reduceMul, Nat.reduceLT, Nat.reduceLeDiff, Nat.reducePow, Int.reduceToNat, Int.reduceLT, Int.reduceLE, Int.reduceEq, Int.reduceNe, Int.reduceAdd, Int.reduceSub, Int.reduceMul, Int.reduceNeg, qC_7, qC_o, qC_l, qC_8, qC_9, qC_10, qC_11]
  refine fun b1 => cK_vn hf ?_
  simp only [go_sem, reduceIte, Nat.reduceEqDiff, Nat.reduceAdd, Nat.reduceSub, Nat.reduceMul, Nat.reduceLT, Nat.reduceLeDiff, Nat.reducePow, Int.reduceToNat, Int.reduceLT, Int.reduceLE, Int.reduceEq, Int.reduceNe, Int.reduceAdd, Int.reduceSub, Int.reduceMul, Int.reduceNeg]
  refine cK_t0 hcl fun t ht => ?_
  simp only [go_sem, reduceIte, Nat.reduceEqDiff, Nat.reduceAdd, Nat.reduceSub, Nat.reduceMul, Nat.reduceLT, Nat.reduceLeDiff, Nat.reducePow, Int.reduceToNat, Int.reduceLT, Int.reduceLE, Int.reduceEq, Int.reduceNe, Int.reduceAdd, Int.reduceSub, Int.reduceMul, Int.reduceNeg]
  refine new_1 fun b3 n1 n2 => ?_
  try simp only [go_sem, reduceIte, Nat.reduceEqDiff, Nat.reduceAdd, Nat.reduceSub, Nat.reduceMul, Nat.reduceLT, Nat.reduceLeDiff, Nat.reducePow, Int.reduceToNat, Int.reduceLT, Int.reduceLE, Int.reduceEq, Int.reduceNe, Int.reduceAdd, Int.reduceSub, Int.reduceMul, Int.reduceNeg, n1, n2, qC_7, qC_o, qC_l, qC_8, qC_9, qC_10, qC_11]
  refine cK_clo (addA_ok (xs := [id]) col (by simp [Heap.set, n1, n2]; rfl) (by simp [Heap.set]) (List.mem_cons_self ..) (by simp)) ?_ ?_
  · rintro d β' ω' ⟨r1, r2, t', r3, r4⟩
    cases r1
    try simp only [go_sem, reduceIte, Nat.reduceEqDiff, Nat.reduceAdd, Nat.reduceSub, Nat.reduceMul, Nat.reduceLT, Nat.reduceLeDiff, Nat.reducePow, Int.reduceToNat, Int.reduceLT, Int.reduceLE, Int.reduceEq, Int.reduceNe, Int.reduceAdd, Int.reduceSub, Int.reduceMul, Int.reduceNeg, r2, r4, qC_7, qC_o, qC_l, qC_8, qC_9, qC_10, qC_11]
    refine cK_vn (SortA_ok _ id col (by omega)) ?_
    try simp only [go_sem, reduceIte, Nat.reduceEqDiff, Nat.reduceAdd, Nat.reduceSub, Nat.reduceMul, Nat.reduceLT, Nat.reduceLeDiff, Nat.reducePow, Int.reduceToNat, Int.reduceLT, Int.reduceLE, Int.reduceEq, Int.reduceNe, Int.reduceAdd, Int.reduceSub, Int.reduceMul, Int.reduceNeg, r2, r4]
    refine cK_vn (CompactA_ok _ id col (by omega)) ?_
    try simp only [go_sem, reduceIte, Nat.reduceEqDiff, Nat.reduceAdd, Nat.reduceSub, Nat.reduceMul, Nat.reduceLT, Nat.reduceLeDiff, Nat.reducePow, Int.reduceToNat, Int.reduceLT, Int.reduceLE, Int.reduceEq, Int.reduceNe, Int.reduceAdd, Int.reduceSub, Int.reduceMul, Int.reduceNeg, r2, r4]
    exact finK_drop ⟨rfl, rfl, rfl⟩
  · rintro d β' ω' ⟨r1, _⟩
    cases r1
theorem NeededB_ok (col by_ : Int) (h : by_ ≠ col) : VN P G 21 [.agg (qC 0 0 3 col by_)] (.sl .none ((if col < by_ then [col, by_] else [by_, col]).map iD)) := by
  have hf : VN P G 34 [.agg (Pr.mk 0 0 0 0 [] ByteArray.empty []).cells] (.sl .none []) := by
    have := Fields_ok (G := G) (.mk 0 0 0 0 [] ByteArray.empty []) rfl
    rw [if_neg (by decide)] at this
    exact this
  have hcl := CloneB_ok (G := G)
  unfold VN
  refine VC.turn (Φ1 := fun o β ω => ∃ d, o = .ret d ∧ BoxI β d (if col < by_ then [col, by_] else [by_, col])) ?_ ?_ ?_
  · refine VC.ofs (fun | 12 => [(0, []), (1, []), (2, []), (3, []), (4, []), (5, []), (6, []), (7, []), (8, [])] | 99999999 => [(0, [0, 1, 2, 3, 4, 11, 12, 18, 28, 37])] | _ => []) [2] mixed Try.func21 rfl rfl rfl rfl (by decide +kernel) (by simp) ?_
    simp only [go_sem, reduceIte, Nat.reduceEqDiff, Nat.reduceAdd, Nat.reduceSub, Nat.reduceMul, Nat.reduceLT, Nat.reduceLeDiff, Nat.reducePow, Int.reduceToNat, Int.reduceLT, Int.reduceLE, Int.reduceEq, Int.reduceNe, Int.reduceAdd, Int.reduceSub, Int.reduceMul, Int.reduceNeg, qC_7, qC_o, qC_l, qC_8, qC_9, qC_10, qC_11]
    refine fun b1 => cK_vn hf ?_
    simp only [go_sem, reduceIte, Nat.reduceEqDiff, Nat.reduceAdd, Nat.reduceSub, Nat.reduceMul, Nat.reduceLT, Nat.reduceLeDiff, Nat.reducePow, Int.reduceToNat, Int.reduceLT, Int.reduceLE, Int.reduceEq, Int.reduceNe, Int.reduceAdd, Int.reduceSub, Int.reduceMul, Int.reduceNeg]
    refine cK_vn hcl ?_
    simp only [go_sem, reduceIte, Nat.reduceEqDiff, Nat.reduceAdd, Nat.reduceSub, Nat.reduceMul, Nat.reduceLT, Nat.reduceLeDiff, Nat.reducePow, Int.reduceToNat, Int.reduceLT, Int.reduceLE, Int.reduceEq, Int.reduceNe, Int.reduceAdd, Int.reduceSub, Int.reduceMul, Int.reduceNeg]
    refine new_1 fun b3 n1 n2 => ?_
    try simp only [go_sem, reduceIte, Nat.reduceEqDiff, Nat.reduceAdd, Nat.reduceSub, Nat.reduceMul, Nat.reduceLT, Nat.reduceLeDiff, Nat.reducePow, Int.reduceToNat, Int.reduceLT, Int.reduceLE, Int.reduceEq, Int.reduceNe, Int.reduceAdd, Int.reduceSub, Int.reduceMul, Int.reduceNeg, n1, n2, qC_7, qC_o, qC_l, qC_8, qC_9, qC_10, qC_11]
    refine cK_clo (add_ok (xs := []) by_ (by simp [Heap.set, n1, n2]; rfl) (by simp [Heap.set]) (.inl ⟨rfl, rfl⟩) (by simp)) ?_ ?_
    · rintro d β' ω' ⟨r1, r2, d1, r3, r4⟩
      cases r1
      try simp only [go_sem, reduceIte, Nat.reduceEqDiff, Nat.reduceAdd, Nat.reduceSub, Nat.reduceMul, Nat.reduceLT, Nat.reduceLeDiff, Nat.reducePow, Int.reduceToNat, Int.reduceLT, Int.reduceLE, Int.reduceEq, Int.reduceNe, Int.reduceAdd, Int.reduceSub, Int.reduceMul, Int.reduceNeg, r2, r3, qC_7, qC_o, qC_l, qC_8, qC_9, qC_10, qC_11]
      refine cK_clo (add_ok (xs := [by_]) col r2 r3 (.inr r4) (by simp)) ?_ ?_
      · rintro d β' ω' ⟨r1, r2, d1, r3, b, f, rfl, r4, r5, r6⟩
        cases r1
        obtain ⟨rest, rfl⟩ : ∃ rest, f = by_ :: col :: rest := by
          match f, r5, r6 with
          | [], _, h => simp at h
          | [_], _, h => simp at h
          | a :: c :: rest, h, _ =>
            simp at h
            obtain ⟨rfl, rfl⟩ := h
            exact ⟨rest, rfl⟩
        try simp only [go_sem, reduceIte, Nat.reduceEqDiff, Nat.reduceAdd, Nat.reduceSub, Nat.reduceMul, Nat.reduceLT, Nat.reduceLeDiff, Nat.reducePow, Int.reduceToNat, Int.reduceLT, Int.reduceLE, Int.reduceEq, Int.reduceNe, Int.reduceAdd, Int.reduceSub, Int.reduceMul, Int.reduceNeg, r2, r3, qC_7, qC_o, qC_l, qC_8, qC_9, qC_10, qC_11]
        have nb : b ≠ b3 ∧ b3 ≠ b := by
          have : b ≠ b3 := fun e => by rw [e, r3] at r4; exact so_not _ _ _ _ _ (Option.some.inj r4)
          exact ⟨this, this.symm⟩
        refine cK_vw (SortB_ok b by_ col rest) r4 ?_
        by_cases hlt : col < by_
        · have eo : ordI by_ col rest = col :: by_ :: rest := by rw [ordI, if_pos hlt]
          rw [eo]
          try simp only [go_sem, reduceIte, Nat.reduceEqDiff, Nat.reduceAdd, Nat.reduceSub, Nat.reduceMul, Nat.reduceLT, Nat.reduceLeDiff, Nat.reducePow, Int.reduceToNat, Int.reduceLT, Int.reduceLE, Int.reduceEq, Int.reduceNe, Int.reduceAdd, Int.reduceSub, Int.reduceMul, Int.reduceNeg, r2, r3, nb]
          refine cK_vr (CompactB_ok b col by_ rest h) (by simp [Heap.set]) ?_
          try simp only [go_sem, reduceIte, Nat.reduceEqDiff, Nat.reduceAdd, Nat.reduceSub, Nat.reduceMul, Nat.reduceLT, Nat.reduceLeDiff, Nat.reducePow, Int.reduceToNat, Int.reduceLT, Int.reduceLE, Int.reduceEq, Int.reduceNe, Int.reduceAdd, Int.reduceSub, Int.reduceMul, Int.reduceNeg, r2, r3, nb]
          refine finK_exact ⟨_, rfl, ?_⟩
          rw [if_pos hlt]
          exact ⟨b, col :: by_ :: rest, rfl, by simp [Heap.set], rfl, by simp⟩
        · have eo : ordI by_ col rest = by_ :: col :: rest := by rw [ordI, if_neg hlt]
          rw [eo]
          try simp only [go_sem, reduceIte, Nat.reduceEqDiff, Nat.reduceAdd, Nat.reduceSub, Nat.reduceMul, Nat.reduceLT, Nat.reduceLeDiff, Nat.reducePow, Int.reduceToNat, Int.reduceLT, Int.reduceLE, Int.reduceEq, Int.reduceNe, Int.reduceAdd, Int.reduceSub, Int.reduceMul, Int.reduceNeg, r2, r3, nb]
          refine cK_vr (CompactB_ok b by_ col rest h.symm) (by simp [Heap.set]) ?_
          try simp only [go_sem, reduceIte, Nat.reduceEqDiff, Nat.reduceAdd, Nat.reduceSub, Nat.reduceMul, Nat.reduceLT, Nat.reduceLeDiff, Nat.reducePow, Int.reduceToNat, Int.reduceLT, Int.reduceLE, Int.reduceEq, Int.reduceNe, Int.reduceAdd, Int.reduceSub, Int.reduceMul, Int.reduceNeg, r2, r3, nb]
          refine finK_exact ⟨_, rfl, ?_⟩
          rw [if_neg hlt]
          exact ⟨b, by_ :: col :: rest, rfl, by simp [Heap.set], rfl, by simp⟩
      · rintro d β' ω' ⟨r1, _⟩
        cases r1
    · rintro d β' ω' ⟨r1, _⟩
      cases r1
  · rintro d β' ω' ⟨d', h1, b, f, rfl, h2, h3, h4⟩
    cases h1
    have hX : (if col < by_ then [col, by_] else [by_, col]).length ≤ 2 := by split <;> simp
    generalize (if col < by_ then [col, by_] else [by_, col]) = X at *
    refine Turn.bind (Turn.freeze (m := 1) (xs := X.map iD) h2 (isObj_iD f) h4 (by rw [List.length_map]; omega) ?_ (iD_cells _) (by simp) ?_) ?_
    · rw [flat_iD, Nat.mul_one, ← List.map_take, h3]
    · simp only [mostLen]; omega
    · rintro d β ω ⟨t, ht, rfl, rfl, rfl⟩
      exact Turn.weak (finK_drop ⟨rfl, rfl, rfl⟩)
  · rintro d β' ω' ⟨d', h1, _⟩
    cases h1
end Go.Proofs.YtgkfcgfobckaaaaS
