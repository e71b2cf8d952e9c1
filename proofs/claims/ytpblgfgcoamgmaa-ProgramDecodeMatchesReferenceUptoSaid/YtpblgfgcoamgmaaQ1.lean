/-
  Predicates (package pred): the truth of a predicate for a row.
  Conditions: none.
-/
import Derived.Test.YtpblgfgcoamgmaaQ0
set_option linter.unusedVariables false
set_option linter.unusedSimpArgs false
namespace Go.Proofs.YtpblgfgcoamgmaaS
open Go Go.Proofs.YtpblgfgcoamgmaaV

variable {G : Heap}
attribute [local irreducible] VN VC VX VQ VP

def isAt (op : Int) : Bool := decide (1 ≤ op) && decide (op ≤ 4)
theorem isAtom_ok (op : Int) : VN P G 55 [.int .i64 op] (.bool (isAt op)) := by
  unfold VN isAt
  refine VC.ofs (fun | 99999999 => [(0, [0, 2])] | _ => []) [2] mixed Try.func55 rfl rfl rfl rfl (by decide +kernel) (by simp) ?_
  by_cases h : 1 ≤ op
  · have h' := eq_true h
    simp only [go_sem, reduceIte, Nat.reduceEqDiff, Nat.reduceAdd, Nat.reduceSub, Nat.reduceMul, Nat.reduceLT, Nat.reduceLeDiff, Nat.reducePow, Int.reduceToNat, Int.reduceLT, Int.reduceLE, Int.reduceEq, Int.reduceNe, Int.reduceAdd, Int.reduceSub, Int.reduceMul, Int.reduceNeg, h', ge_iff_le, decide_true, Bool.true_and]
    exact finK_drop ⟨rfl, rfl, rfl⟩
  · have h' := eq_false h
    simp only [go_sem, reduceIte, Nat.reduceEqDiff, Nat.reduceAdd, Nat.reduceSub, Nat.reduceMul, Nat.reduceLT, Nat.reduceLeDiff, Nat.reducePow, Int.reduceToNat, Int.reduceLT, Int.reduceLE, Int.reduceEq, Int.reduceNe, Int.reduceAdd, Int.reduceSub, Int.reduceMul, Int.reduceNeg, h', ge_iff_le, decide_false, Bool.false_and]
    exact finK_drop ⟨rfl, rfl, rfl⟩
theorem ptruth_ok (b : Bool) : VN P G 71 [.bool b] (.int .i64 (truth b)) := by
  unfold VN
  refine VC.ofs (fun | 99999999 => [(0, [0, 2, 3])] | _ => []) [2] mixed Try.func71 rfl rfl rfl rfl (by decide +kernel) (by simp) ?_
  cases b
  all_goals simp only [go_sem, reduceIte, Nat.reduceEqDiff, Nat.reduceAdd, Nat.reduceSub, Nat.reduceMul, Nat.reduceLT, Nat.reduceLeDiff, Nat.reducePow, Int.reduceToNat, Int.reduceLT, Int.reduceLE, Int.reduceEq, Int.reduceNe, Int.reduceAdd, Int.reduceSub, Int.reduceMul, Int.reduceNeg]
  all_goals exact finK_drop ⟨rfl, rfl, rfl⟩
theorem pget_ok (r : Rw) (id : Int) : VN P G 70 [.agg [.sl .none (r.map clD)], .int .i64 id] (.agg (valV r id).cells) := by
  unfold VN
  refine VC.small2 fun hsm => ?_
  have z1 := hsm (.agg [.sl .none (r.map clD)]) (List.mem_cons_self ..) (.sl .none (r.map clD)) (by simp [D.cells])
  simp only [Small, mostLen, List.length_map] at z1
  clear hsm
  refine VC.ofc (fun | 99999999 => [(0, [0, 1, 2, 4, 6, 8, 9, 10, 11, 17])] | _ => []) [.cell 4 38] mixed Try.func70 rfl rfl rfl rfl (by decide +kernel) (by simp) ?_
  simp only [go_sem, reduceIte, Nat.reduceEqDiff, Nat.reduceAdd, Nat.reduceSub, Nat.reduceMul, Nat.reduceLT, Nat.reduceLeDiff, Nat.reducePow, Int.reduceToNat, Int.reduceLT, Int.reduceLE, Int.reduceEq, Int.reduceNe, Int.reduceAdd, Int.reduceSub, Int.reduceMul, Int.reduceNeg]
  intro b2
  refine new_1 fun b4 h1 h2 => ?_
  try simp only [go_sem, reduceIte, Nat.reduceEqDiff, Nat.reduceAdd, Nat.reduceSub, Nat.reduceMul, Nat.reduceLT, Nat.reduceLeDiff, Nat.reducePow, Int.reduceToNat, Int.reduceLT, Int.reduceLE, Int.reduceEq, Int.reduceNe, Int.reduceAdd, Int.reduceSub, Int.reduceMul, Int.reduceNeg, h1, h2]
  have el : (r.map clD).length = r.length := by simp
  generalize hβ : Heap.set _ b4 _ = β0
  have e2 : β0 b2 = some [.sl .none (r.map clD)] := by rw [← hβ]; simp [Heap.set, h1, h2]
  have e4 : β0 b4 = some [.bool false, .int .i64 0, .str ByteArray.empty] := by rw [← hβ]; simp [Heap.set]
  clear hβ
  refine vwq_loop (fun v => ∃ (j : Nat), j ≤ r.length ∧ valV (r.drop j) id = valV r id ∧ v.σ 1 = .int .i64 id ∧ v.σ 4 = .pb b4 0 ∧ v.σ 8 = .sl .none (r.map clD) ∧ v.σ 9 = .int .i64 r.length ∧ v.σ 10 = .int .i64 j ∧ v.β b4 = some [.bool false, .int .i64 0, .str ByteArray.empty] ∧ v.ω = []) (fun v => r.length - (ival (v.σ 10)).toNat) ⟨0, by omega, rfl, rfl, rfl, rfl, by simp only [go_sem, reduceIte, Nat.reduceEqDiff, Nat.reduceAdd, Nat.reduceSub, Nat.reduceMul, Nat.reduceLT, Nat.reduceLeDiff, Nat.reducePow, Int.reduceToNat, Int.reduceLT, Int.reduceLE, Int.reduceEq, Int.reduceNe, Int.reduceAdd, Int.reduceSub, Int.reduceMul, Int.reduceNeg, el], rfl, e4, rfl⟩ ?_
  clear e2 e4 β0
  rintro σ β ω ⟨j, j1, j2, q1, q4, q8, q9, q10, e4, rfl⟩
  dsimp only at q1 q4 q8 q9 q10 e4
  try simp only [go_sem, reduceIte, Nat.reduceEqDiff, Nat.reduceAdd, Nat.reduceSub, Nat.reduceMul, Nat.reduceLT, Nat.reduceLeDiff, Nat.reducePow, Int.reduceToNat, Int.reduceLT, Int.reduceLE, Int.reduceEq, Int.reduceNe, Int.reduceAdd, Int.reduceSub, Int.reduceMul, Int.reduceNeg, q1, q4, q8, q9, q10, e4]
  refine cd_dec (fun g => ?_) (fun g => ?_)
  · obtain ⟨x, hx, ex⟩ := Cl_at (l := r) (j := j) (by omega)
    rw [drop_at hx, valV] at j2
    have g1 := eq_true g
    have wj := wrap_i64 (x := (j : Int) + 1) (by omega) (by omega)
    have c1 : ((0 : Int) ≤ j) = True := eq_true (by omega)
    try simp only [go_sem, reduceIte, Nat.reduceEqDiff, Nat.reduceAdd, Nat.reduceSub, Nat.reduceMul, Nat.reduceLT, Nat.reduceLeDiff, Nat.reducePow, Int.reduceToNat, Int.reduceLT, Int.reduceLE, Int.reduceEq, Int.reduceNe, Int.reduceAdd, Int.reduceSub, Int.reduceMul, Int.reduceNeg, q1, q4, q8, q9, q10, e4, ex, g1, c1, el]
    have N := trivial
    refine new_any fun b6 hb6 => ?_
    have N := And.intro N (box_ne hb6 e4)
    try simp only [go_sem, reduceIte, Nat.reduceEqDiff, Nat.reduceAdd, Nat.reduceSub, Nat.reduceMul, Nat.reduceLT, Nat.reduceLeDiff, Nat.reducePow, Int.reduceToNat, Int.reduceLT, Int.reduceLE, Int.reduceEq, Int.reduceNe, Int.reduceAdd, Int.reduceSub, Int.reduceMul, Int.reduceNeg, q1, q4, q8, q9, q10, e4, ex, g1, c1, el, N]
    refine cd_dec (fun k => ?_) (fun k => ?_)
    · try simp only [go_sem, reduceIte, Nat.reduceEqDiff, Nat.reduceAdd, Nat.reduceSub, Nat.reduceMul, Nat.reduceLT, Nat.reduceLeDiff, Nat.reducePow, Int.reduceToNat, Int.reduceLT, Int.reduceLE, Int.reduceEq, Int.reduceNe, Int.reduceAdd, Int.reduceSub, Int.reduceMul, Int.reduceNeg, q1, q4, q8, q9, q10, e4, ex, g1, c1, N]
      exact finK_drop ⟨by rw [← j2, if_pos k]; rfl, rfl, rfl⟩
    · try simp only [go_sem, reduceIte, Nat.reduceEqDiff, Nat.reduceAdd, Nat.reduceSub, Nat.reduceMul, Nat.reduceLT, Nat.reduceLeDiff, Nat.reducePow, Int.reduceToNat, Int.reduceLT, Int.reduceLE, Int.reduceEq, Int.reduceNe, Int.reduceAdd, Int.reduceSub, Int.reduceMul, Int.reduceNeg, q1, q4, q8, q9, q10, e4, ex, wj]
      rw [if_neg k] at j2
      exact ⟨⟨j + 1, by omega, j2, rfl, by simp [Heap.set, N, e4]⟩, by omega⟩
  · try simp only [go_sem, reduceIte, Nat.reduceEqDiff, Nat.reduceAdd, Nat.reduceSub, Nat.reduceMul, Nat.reduceLT, Nat.reduceLeDiff, Nat.reducePow, Int.reduceToNat, Int.reduceLT, Int.reduceLE, Int.reduceEq, Int.reduceNe, Int.reduceAdd, Int.reduceSub, Int.reduceMul, Int.reduceNeg, q1, q4, q8, q9, q10, e4]
    rw [List.drop_eq_nil_of_le (by omega), valV] at j2
    exact finK_drop ⟨by rw [← j2]; rfl, rfl, rfl⟩
/-- Whether a Kid has this truth value, or none is known to have another one. -/
def someF (stop : Int) : Int → List Int → Int
  | out, [] => out
  | out, t :: l => if t = stop then stop else if t = 2 then someF stop 2 l else someF stop out l
theorem some_ok (ks : List Pr) (stop : Int) (hs : 0 ≤ stop ∧ stop ≤ 1) {ev : Pr → Int} {f : FuncId} {fs cs : List D} (b : Nat) (X : List D) (hk : ∀ k ∈ ks, VQ P G f (fs ++ [.agg k.cells] ++ cs) b X (.int .i64 (ev k))) :
    VQ P G 69 ([] ++ [.sl .none (ks.map Pr.d), .int .i64 stop, .clo (.func f) fs cs] ++ []) b X (.int .i64 (someF stop (1 - stop) (ks.map ev))) := by
  unfold VQ
  simp only [List.nil_append, List.append_nil]
  refine VC.small2 fun hsm => ?_
  have z1 := hsm (.sl .none (ks.map Pr.d)) (List.mem_cons_self ..) (.sl .none (ks.map Pr.d)) (by simp [D.cells])
  simp only [Small, mostLen, List.length_map] at z1
  clear hsm
  refine VC.ofs (fun | 99999999 => [(0, [0, 1, 2, 6, 7, 9, 10, 13, 14, 15, 16, 22, 23, 27])] | _ => []) [6] mixed Try.func69 rfl rfl rfl rfl (by decide +kernel) (by simp) ?_
  have el : (ks.map Pr.d).length = ks.length := by simp
  have w0 := wrap_i64 (x := 1 - stop) (by omega) (by omega)
  simp only [go_sem, reduceIte, Nat.reduceEqDiff, Nat.reduceAdd, Nat.reduceSub, Nat.reduceMul, Nat.reduceLT, Nat.reduceLeDiff, Nat.reducePow, Int.reduceToNat, Int.reduceLT, Int.reduceLE, Int.reduceEq, Int.reduceNe, Int.reduceAdd, Int.reduceSub, Int.reduceMul, Int.reduceNeg, el, w0]
  refine vwq_loop (fun v => ∃ (j : Nat) (o : Int), j ≤ ks.length ∧ someF stop o ((ks.map ev).drop j) = someF stop (1 - stop) (ks.map ev) ∧ v.σ 1 = .int .i64 stop ∧ v.σ 2 = .clo (.func f) fs cs ∧ v.σ 7 = .int .i64 o ∧ v.σ 13 = .sl .none (ks.map Pr.d) ∧ v.σ 14 = .int .i64 ks.length ∧ v.σ 15 = .int .i64 j ∧ v.β b = some X ∧ v.ω = []) (fun v => ks.length - (ival (v.σ 15)).toNat) ⟨0, 1 - stop, by omega, rfl, rfl, rfl, rfl, rfl, rfl, rfl, by simp [Heap.set], rfl⟩ ?_
  rintro σ β ω ⟨j, o, hj, hf, q1, q2, q7, q13, q14, q15, eb, rfl⟩
  dsimp only at q1 q2 q7 q13 q14 q15 eb
  try simp only [go_sem, reduceIte, Nat.reduceEqDiff, Nat.reduceAdd, Nat.reduceSub, Nat.reduceMul, Nat.reduceLT, Nat.reduceLeDiff, Nat.reducePow, Int.reduceToNat, Int.reduceLT, Int.reduceLE, Int.reduceEq, Int.reduceNe, Int.reduceAdd, Int.reduceSub, Int.reduceMul, Int.reduceNeg, q1, q2, q7, q13, q14, q15]
  refine cd_dec (fun g => ?_) (fun g => ?_)
  · have g' := eq_true g
    obtain ⟨k, hx, ex⟩ := Pr_at (l := ks) (j := j) (by rw [List.length_map]; omega)
    have c1 : ((0 : Int) ≤ j) = True := eq_true (by omega)
    have wj := wrap_i64 (x := (j : Int) + 1) (by omega) (by omega)
    have hkk := hk k (List.mem_of_getElem? hx)
    have hx' : (ks.map ev)[j]? = some (ev k) := by rw [List.getElem?_map, hx]; rfl
    rw [drop_at hx', someF] at hf
    simp only [Pr.cells] at hkk
    try simp only [go_sem, reduceIte, Nat.reduceEqDiff, Nat.reduceAdd, Nat.reduceSub, Nat.reduceMul, Nat.reduceLT, Nat.reduceLeDiff, Nat.reducePow, Int.reduceToNat, Int.reduceLT, Int.reduceLE, Int.reduceEq, Int.reduceNe, Int.reduceAdd, Int.reduceSub, Int.reduceMul, Int.reduceNeg, q1, q2, q7, q13, q14, q15, c1, g', el, ex]
    have N := trivial
    refine new_any fun b9 hb9 => ?_
    have N := And.intro N (box_ne hb9 eb)
    try simp only [go_sem, reduceIte, Nat.reduceEqDiff, Nat.reduceAdd, Nat.reduceSub, Nat.reduceMul, Nat.reduceLT, Nat.reduceLeDiff, Nat.reducePow, Int.reduceToNat, Int.reduceLT, Int.reduceLE, Int.reduceEq, Int.reduceNe, Int.reduceAdd, Int.reduceSub, Int.reduceMul, Int.reduceNeg, q1, q2, q7, q13, q14, q15, c1, g', el, ex, N]
    refine cK_vq hkk (by simp [Heap.set, N, eb]) ?_
    generalize ev k = t at hf
    by_cases h1 : t = stop
    · rw [if_pos h1] at hf
      have h1' := eq_true h1
      try simp only [go_sem, reduceIte, Nat.reduceEqDiff, Nat.reduceAdd, Nat.reduceSub, Nat.reduceMul, Nat.reduceLT, Nat.reduceLeDiff, Nat.reducePow, Int.reduceToNat, Int.reduceLT, Int.reduceLE, Int.reduceEq, Int.reduceNe, Int.reduceAdd, Int.reduceSub, Int.reduceMul, Int.reduceNeg, q1, q2, q7, q13, q14, q15, c1, g', el, ex, N, h1', decide_true]
      exact finK_var (b := b) (x := X) (by simp [Heap.set, N, eb]) ⟨by rw [← hf]; rfl, rfl, rfl⟩
    · rw [if_neg h1] at hf
      have h1' := eq_false h1
      by_cases h2 : t = 2
      · rw [if_pos h2] at hf
        have h2' := eq_true h2
        try simp only [go_sem, reduceIte, Nat.reduceEqDiff, Nat.reduceAdd, Nat.reduceSub, Nat.reduceMul, Nat.reduceLT, Nat.reduceLeDiff, Nat.reducePow, Int.reduceToNat, Int.reduceLT, Int.reduceLE, Int.reduceEq, Int.reduceNe, Int.reduceAdd, Int.reduceSub, Int.reduceMul, Int.reduceNeg, q1, q2, q7, q13, q14, q15, c1, g', el, ex, N, h1', h2', decide_true, decide_false, wj]
        exact ⟨⟨j + 1, t, by omega, by rw [h2]; exact hf, rfl, rfl, by simp [Heap.set, N, eb]⟩, by omega⟩
      · rw [if_neg h2] at hf
        have h2' := eq_false h2
        try simp only [go_sem, reduceIte, Nat.reduceEqDiff, Nat.reduceAdd, Nat.reduceSub, Nat.reduceMul, Nat.reduceLT, Nat.reduceLeDiff, Nat.reducePow, Int.reduceToNat, Int.reduceLT, Int.reduceLE, Int.reduceEq, Int.reduceNe, Int.reduceAdd, Int.reduceSub, Int.reduceMul, Int.reduceNeg, q1, q2, q7, q13, q14, q15, c1, g', el, ex, N, h1', h2', decide_true, decide_false, wj]
        exact ⟨⟨j + 1, o, by omega, hf, rfl, rfl, by simp [Heap.set, N, eb]⟩, by omega⟩
  · try simp only [go_sem, reduceIte, Nat.reduceEqDiff, Nat.reduceAdd, Nat.reduceSub, Nat.reduceMul, Nat.reduceLT, Nat.reduceLeDiff, Nat.reducePow, Int.reduceToNat, Int.reduceLT, Int.reduceLE, Int.reduceEq, Int.reduceNe, Int.reduceAdd, Int.reduceSub, Int.reduceMul, Int.reduceNeg, q1, q2, q7, q13, q14, q15]
    rw [List.drop_eq_nil_of_le (by rw [List.length_map]; omega), someF] at hf
    exact finK_var (b := b) (x := X) eb ⟨by rw [← hf]; rfl, rfl, rfl⟩
theorem someF_and : ∀ (l : List Int) (o : Int), (o = 1 ∨ o = 2) → (∀ t ∈ l, t = 0 ∨ t = 1 ∨ t = 2) → someF 0 o l = if 0 ∈ l then 0 else if 2 ∈ l then 2 else o
  | [], o, _, _ => by simp [someF]
  | t :: l, o, ho, h => by
    have h1 := h t (by simp)
    have h2 : ∀ t ∈ l, t = 0 ∨ t = 1 ∨ t = 2 := fun t ht => h t (by simp [ht])
    rw [someF]
    rcases h1 with rfl | rfl | rfl
    · simp
    · rw [if_neg (by decide), if_neg (by decide), someF_and l o ho h2]; simp
    · rw [if_neg (by decide), if_pos rfl, someF_and l 2 (.inr rfl) h2]; simp
theorem someF_or : ∀ (l : List Int) (o : Int), (o = 0 ∨ o = 2) → (∀ t ∈ l, t = 0 ∨ t = 1 ∨ t = 2) → someF 1 o l = if 1 ∈ l then 1 else if 2 ∈ l then 2 else o
  | [], o, _, _ => by simp [someF]
  | t :: l, o, ho, h => by
    have h1 := h t (by simp)
    have h2 : ∀ t ∈ l, t = 0 ∨ t = 1 ∨ t = 2 := fun t ht => h t (by simp [ht])
    rw [someF]
    rcases h1 with rfl | rfl | rfl
    · rw [if_neg (by decide), if_neg (by decide), someF_or l o ho h2]; simp
    · simp
    · rw [if_neg (by decide), if_pos rfl, someF_or l 2 (.inr rfl) h2]; simp
theorem count_all {l : List Int} {a : Int} : ((l.count a : Nat) : Int) = l.length ↔ ∀ t ∈ l, t = a := by
  rw [Int.ofNat_inj, List.count_eq_length]
  exact ⟨fun h t ht => (h t ht).symm, fun h t ht => (h t ht).symm⟩
theorem evK_and (s : Int) {l : List Int} (h : ∀ t ∈ l, t = 0 ∨ t = 1 ∨ t = 2) : evK 5 s l = someF 0 1 l := by
  rw [someF_and l 1 (.inl rfl) h]
  simp only [evK]
  rw [if_neg (by decide), if_neg (by decide), if_pos trivial]
  have hp : (0 < ((l.count 0 : Nat) : Int)) ↔ 0 ∈ l := by rw [← List.count_pos_iff]; omega
  by_cases h0 : 0 ∈ l
  · rw [if_pos h0, if_pos (.inl (hp.2 h0)), decide_eq_false (by have := hp.2 h0; omega)]; rfl
  · rw [if_neg h0]
    by_cases h2 : 2 ∈ l
    · rw [if_pos h2, if_neg]
      rintro (h3 | h3)
      · exact h0 (hp.1 h3)
      · have := count_all.1 h3 2 h2; omega
    · rw [if_neg h2, if_pos (.inr (count_all.2 fun t ht => by
        rcases h t ht with rfl | rfl | rfl
        · exact absurd ht h0
        · rfl
        · exact absurd ht h2)), decide_eq_true (by have := mt hp.1 h0; omega)]; rfl
theorem evK_or (s : Int) {l : List Int} (h : ∀ t ∈ l, t = 0 ∨ t = 1 ∨ t = 2) : evK 6 s l = someF 1 0 l := by
  rw [someF_or l 0 (.inl rfl) h]
  simp only [evK]
  rw [if_neg (by decide), if_neg (by decide), if_neg (by decide), if_pos trivial]
  have hp : (0 < ((l.count 1 : Nat) : Int)) ↔ 1 ∈ l := by rw [← List.count_pos_iff]; omega
  by_cases h0 : 1 ∈ l
  · rw [if_pos h0, if_pos (.inl (hp.2 h0)), decide_eq_true (hp.2 h0)]; rfl
  · rw [if_neg h0]
    by_cases h2 : 2 ∈ l
    · rw [if_pos h2, if_neg]
      rintro (h3 | h3)
      · exact h0 (hp.1 h3)
      · have := count_all.1 h3 2 h2; omega
    · rw [if_neg h2, if_pos (.inr (count_all.2 fun t ht => by
        rcases h t ht with rfl | rfl | rfl
        · rfl
        · exact absurd ht h0
        · exact absurd ht h2)), decide_eq_false (mt hp.1 h0)]; rfl
theorem simple012 (p : Pr) (v : Vl) : simpleF p v = 0 ∨ simpleF p v = 1 ∨ simpleF p v = 2 := by
  have ht : ∀ b, truth b = 0 ∨ truth b = 1 := fun b => by cases b <;> simp [truth]
  unfold simpleF
  repeat' split
  all_goals first | exact .inr (.inr rfl) | (rcases ht _ with h | h; exact .inl h; exact .inr (.inl h))
theorem eval012 (r : Rw) (p : Pr) : evalP r p = 0 ∨ evalP r p = 1 ∨ evalP r p = 2 := by
  have ht : ∀ b, truth b = 0 ∨ truth b = 1 := fun b => by cases b <;> simp [truth]
  rw [evalP_eq, evK]
  repeat' split
  all_goals first | (exact .inr (.inl rfl)) | (exact .inr (.inr rfl)) | exact simple012 _ _ | (rcases ht _ with h | h; exact .inl h; exact .inr (.inl h))
theorem evK_not (s : Int) (t : Int) (h : t = 0 ∨ t = 1 ∨ t = 2) : evK 7 s [t] = if t = 2 then 2 else 1 - t := by
  rcases h with rfl | rfl | rfl <;> simp [evK, truth]
theorem evK_not' (s : Int) {l : List Int} (h : (l.length : Int) ≠ 1) : evK 7 s l = 2 := by
  simp only [evK]
  rw [if_neg (by decide), if_neg (by decide), if_neg (by decide), if_neg (by decide), if_pos trivial, if_neg (fun g => h g.1)]
theorem within_any {v : Vl} (h : v.null = false) (l : List Vl) : within v l = l.any fun x => decide (v = x) := by
  unfold within
  congr 1
  funext x
  obtain ⟨vn, vi, vs⟩ := v
  obtain ⟨xn, xi, xs⟩ := x
  dsimp only at h; subst h
  cases xn <;> simp [eq_comm]
theorem Eval1_ok {r : Rw} {k : Pr} (b : Nat) (h : VN P G 47 [.agg k.cells, .agg [.sl .none (r.map clD)]] (.int .i64 (evalP r k))) : VQ P G 68 ([] ++ [.agg k.cells] ++ [.pb b 0]) b [.sl .none (r.map clD)] (.int .i64 (evalP r k)) := by
  simp only [List.nil_append, List.cons_append]
  unfold VQ
  refine VC.ofs (fun | 99999999 => [(0, [0, 1, 2, 3])] | _ => []) [3] mixed Try.func68 rfl rfl rfl rfl (by decide +kernel) (by simp) ?_
  simp only [go_sem, reduceIte, Nat.reduceEqDiff, Nat.reduceAdd, Nat.reduceSub, Nat.reduceMul, Nat.reduceLT, Nat.reduceLeDiff, Nat.reducePow, Int.reduceToNat, Int.reduceLT, Int.reduceLE, Int.reduceEq, Int.reduceNe, Int.reduceAdd, Int.reduceSub, Int.reduceMul, Int.reduceNeg]
  refine new_1 fun b2 h1 h2 => ?_
  try simp only [go_sem, reduceIte, Nat.reduceEqDiff, Nat.reduceAdd, Nat.reduceSub, Nat.reduceMul, Nat.reduceLT, Nat.reduceLeDiff, Nat.reducePow, Int.reduceToNat, Int.reduceLT, Int.reduceLE, Int.reduceEq, Int.reduceNe, Int.reduceAdd, Int.reduceSub, Int.reduceMul, Int.reduceNeg, h1, h2, show k.cells.take 7 = k.cells from rfl, show k.cells.length = 7 from rfl, show isObj k.cells = false from rfl]
  (first | refine cK_vn (h) ?_ | refine cE_vn (h) ?_)
  try simp only [go_sem, reduceIte, Nat.reduceEqDiff, Nat.reduceAdd, Nat.reduceSub, Nat.reduceMul, Nat.reduceLT, Nat.reduceLeDiff, Nat.reducePow, Int.reduceToNat, Int.reduceLT, Int.reduceLE, Int.reduceEq, Int.reduceNe, Int.reduceAdd, Int.reduceSub, Int.reduceMul, Int.reduceNeg, h1, h2]
  exact finK_var (b := b) (by simp [Heap.set, h1, h2]) ⟨rfl, rfl, rfl⟩
set_option maxHeartbeats 4000000 in
theorem peval_step (r : Rw) (p : Pr) (ih : ∀ k ∈ p.kids, VN P G 47 [.agg k.cells, .agg [.sl .none (r.map clD)]] (.int .i64 (evalP r k))) : VN P G 47 [.agg p.cells, .agg [.sl .none (r.map clD)]] (.int .i64 (evalP r p)) := by
  have hv := pget_ok (G := G) r p.id
  have h012 : ∀ t ∈ p.kids.map (evalP r), t = 0 ∨ t = 1 ∨ t = 2 := fun t ht => by
    obtain ⟨k, _, rfl⟩ := List.mem_map.1 ht; exact eval012 r k
  have hE : evalP r p = evK p.op (simpleF p (valV r p.id)) (p.kids.map (evalP r)) := evalP_eq r p
  have hat := isAtom_ok (G := G) p.op
  rw [hE]
  simp only [Pr.cells] at ⊢
  unfold VN
  refine VC.ofs (fun | 99999999 => [(0, [0, 1, 2, 3, 4, 5, 6, 7, 10, 11, 13, 19, 25, 30, 38, 44, 49, 56, 59, 76])] | _ => []) [4] mixed Try.func47 rfl rfl rfl rfl (by decide +kernel) (by simp) ?_
  simp only [go_sem, reduceIte, Nat.reduceEqDiff, Nat.reduceAdd, Nat.reduceSub, Nat.reduceMul, Nat.reduceLT, Nat.reduceLeDiff, Nat.reducePow, Int.reduceToNat, Int.reduceLT, Int.reduceLE, Int.reduceEq, Int.reduceNe, Int.reduceAdd, Int.reduceSub, Int.reduceMul, Int.reduceNeg]
  intro b2
  refine new_1 fun b3 h1 h2 => ?_
  try simp only [go_sem, reduceIte, Nat.reduceEqDiff, Nat.reduceAdd, Nat.reduceSub, Nat.reduceMul, Nat.reduceLT, Nat.reduceLeDiff, Nat.reducePow, Int.reduceToNat, Int.reduceLT, Int.reduceLE, Int.reduceEq, Int.reduceNe, Int.reduceAdd, Int.reduceSub, Int.reduceMul, Int.reduceNeg, h1, h2]
  generalize hβ : Heap.set _ b3 _ = β0
  have e2 : β0 b2 = some [.int .i64 p.op, .int .i64 p.id, .int .i64 p.lo, .int .i64 p.hi, .sl .none (p.set.map Vl.d), .str p.text, .sl .none (p.kids.map Pr.d)] := by rw [← hβ]; simp [Heap.set, h1, h2]
  have e3 : β0 b3 = some [.sl .none (r.map clD)] := by rw [← hβ]; simp [Heap.set]
  clear hβ
  have hsome : ∀ stop : Int, 0 ≤ stop ∧ stop ≤ 1 → VQ P G 69 ([] ++ [.sl .none (p.kids.map Pr.d), .int .i64 stop, .clo (.func 68) [] [.pb b3 0]] ++ []) b3 [.sl .none (r.map clD)] (.int .i64 (someF stop (1 - stop) (p.kids.map (evalP r)))) := fun stop hs => some_ok p.kids stop hs b3 _ fun k hk => Eval1_ok b3 (ih k hk)
  by_cases o0 : p.op = 0
  · try simp only [go_sem, reduceIte, Nat.reduceEqDiff, Nat.reduceAdd, Nat.reduceSub, Nat.reduceMul, Nat.reduceLT, Nat.reduceLeDiff, Nat.reducePow, Int.reduceToNat, Int.reduceLT, Int.reduceLE, Int.reduceEq, Int.reduceNe, Int.reduceAdd, Int.reduceSub, Int.reduceMul, Int.reduceNeg, h1, h2, e2, o0]
    exact finK_drop ⟨by simp [evK, D.er, D.er1], rfl, rfl⟩
  by_cases o5 : p.op = 5
  · try simp only [go_sem, reduceIte, Nat.reduceEqDiff, Nat.reduceAdd, Nat.reduceSub, Nat.reduceMul, Nat.reduceLT, Nat.reduceLeDiff, Nat.reducePow, Int.reduceToNat, Int.reduceLT, Int.reduceLE, Int.reduceEq, Int.reduceNe, Int.reduceAdd, Int.reduceSub, Int.reduceMul, Int.reduceNeg, h1, h2, e2, o5]
    refine cK_vq (hsome 0 (by decide)) e3 ?_
    try simp only [go_sem, reduceIte, Nat.reduceEqDiff, Nat.reduceAdd, Nat.reduceSub, Nat.reduceMul, Nat.reduceLT, Nat.reduceLeDiff, Nat.reducePow, Int.reduceToNat, Int.reduceLT, Int.reduceLE, Int.reduceEq, Int.reduceNe, Int.reduceAdd, Int.reduceSub, Int.reduceMul, Int.reduceNeg, h1, h2, e2, o5]
    exact finK_drop ⟨by rw [evK_and _ h012]; rfl, rfl, rfl⟩
  by_cases o6 : p.op = 6
  · try simp only [go_sem, reduceIte, Nat.reduceEqDiff, Nat.reduceAdd, Nat.reduceSub, Nat.reduceMul, Nat.reduceLT, Nat.reduceLeDiff, Nat.reducePow, Int.reduceToNat, Int.reduceLT, Int.reduceLE, Int.reduceEq, Int.reduceNe, Int.reduceAdd, Int.reduceSub, Int.reduceMul, Int.reduceNeg, h1, h2, e2, o6]
    refine cK_vq (hsome 1 (by decide)) e3 ?_
    try simp only [go_sem, reduceIte, Nat.reduceEqDiff, Nat.reduceAdd, Nat.reduceSub, Nat.reduceMul, Nat.reduceLT, Nat.reduceLeDiff, Nat.reducePow, Int.reduceToNat, Int.reduceLT, Int.reduceLE, Int.reduceEq, Int.reduceNe, Int.reduceAdd, Int.reduceSub, Int.reduceMul, Int.reduceNeg, h1, h2, e2, o6]
    exact finK_drop ⟨by rw [evK_or _ h012]; rfl, rfl, rfl⟩
  have el : (p.kids.map Pr.d).length = p.kids.length := by simp
  by_cases o7 : p.op = 7
  · by_cases o8 : (p.kids.length : Int) = 1
    · obtain ⟨k, hk⟩ : ∃ k, p.kids = [k] := by
        match hx : p.kids, o8 with
        | [k], _ => exact ⟨k, rfl⟩
        | [], h => simp at h
        | _ :: _ :: _, h => simp at h; omega
      have hkk := Eval1_ok (G := G) b3 (ih k (by rw [hk]; simp))
      have o8' := eq_true o8
      have ek : (p.kids.map Pr.d).getD 0 .any = .agg k.cells := by rw [hk]; simp [Pr.d_eq]
      have h3 : evK 7 (simpleF p (valV r p.id)) (p.kids.map (evalP r)) = if evalP r k = 2 then 2 else 1 - evalP r k := by rw [hk]; exact evK_not _ _ (eval012 r k)
      have h4 := eval012 r k
      rw [o7, h3]
      try simp only [go_sem, reduceIte, Nat.reduceEqDiff, Nat.reduceAdd, Nat.reduceSub, Nat.reduceMul, Nat.reduceLT, Nat.reduceLeDiff, Nat.reducePow, Int.reduceToNat, Int.reduceLT, Int.reduceLE, Int.reduceEq, Int.reduceNe, Int.reduceAdd, Int.reduceSub, Int.reduceMul, Int.reduceNeg, h1, h2, e2, o7, el, o8', ek, show k.cells.take 7 = k.cells from rfl, show k.cells.length = 7 from rfl]
      refine ⟨by omega, cK_vq hkk e3 ?_⟩
      generalize evalP r k = t at h4
      have wt := wrap_i64 (x := 1 - t) (by omega) (by omega)
      try simp only [go_sem, reduceIte, Nat.reduceEqDiff, Nat.reduceAdd, Nat.reduceSub, Nat.reduceMul, Nat.reduceLT, Nat.reduceLeDiff, Nat.reducePow, Int.reduceToNat, Int.reduceLT, Int.reduceLE, Int.reduceEq, Int.reduceNe, Int.reduceAdd, Int.reduceSub, Int.reduceMul, Int.reduceNeg, h1, h2, e2, o7, ne_eq]
      refine cd_dec (fun g => ?_) (fun g => ?_)
      · try simp only [go_sem, reduceIte, Nat.reduceEqDiff, Nat.reduceAdd, Nat.reduceSub, Nat.reduceMul, Nat.reduceLT, Nat.reduceLeDiff, Nat.reducePow, Int.reduceToNat, Int.reduceLT, Int.reduceLE, Int.reduceEq, Int.reduceNe, Int.reduceAdd, Int.reduceSub, Int.reduceMul, Int.reduceNeg, h1, h2, e2, wt]
        exact finK_drop ⟨by rw [if_neg g]; rfl, rfl, rfl⟩
      · try simp only [go_sem, reduceIte, Nat.reduceEqDiff, Nat.reduceAdd, Nat.reduceSub, Nat.reduceMul, Nat.reduceLT, Nat.reduceLeDiff, Nat.reducePow, Int.reduceToNat, Int.reduceLT, Int.reduceLE, Int.reduceEq, Int.reduceNe, Int.reduceAdd, Int.reduceSub, Int.reduceMul, Int.reduceNeg, h1, h2, e2, wt]
        exact finK_drop ⟨by rw [if_pos (by omega)]; rfl, rfl, rfl⟩
    · have o8' := eq_false o8
      rw [o7, evK_not' _ (by rw [List.length_map]; exact o8)]
      try simp only [go_sem, reduceIte, Nat.reduceEqDiff, Nat.reduceAdd, Nat.reduceSub, Nat.reduceMul, Nat.reduceLT, Nat.reduceLeDiff, Nat.reducePow, Int.reduceToNat, Int.reduceLT, Int.reduceLE, Int.reduceEq, Int.reduceNe, Int.reduceAdd, Int.reduceSub, Int.reduceMul, Int.reduceNeg, h1, h2, e2, o7, el, o8', decide_false]
      exact finK_drop ⟨rfl, rfl, rfl⟩
  rw [show evK p.op (simpleF p (valV r p.id)) (p.kids.map (evalP r)) = if p.op = 1 ∨ p.op = 2 ∨ p.op = 3 ∨ p.op = 4 then simpleF p (valV r p.id) else 2 from by simp [evK, o0, o5, o6, o7]]
  unfold isAt at hat
  by_cases ho : 1 ≤ p.op ∧ p.op ≤ 4
  · rw [if_pos (show p.op = 1 ∨ p.op = 2 ∨ p.op = 3 ∨ p.op = 4 by omega)]
    rw [decide_eq_true ho.1, decide_eq_true ho.2] at hat
    obtain ⟨v, hvv⟩ : ∃ v, valV r p.id = v := ⟨_, rfl⟩
    rw [hvv] at hv ⊢
    have hco := Contains_ok (G := G) p.set v
    have hpf := HasPrefix_ok (G := G) v.s p.text
    have hw := within_any (v := v)
    obtain ⟨vn, vi, vs⟩ := v
    simp only [Vl.cells] at hv hco
    try simp only [go_sem, reduceIte, Nat.reduceEqDiff, Nat.reduceAdd, Nat.reduceSub, Nat.reduceMul, Nat.reduceLT, Nat.reduceLeDiff, Nat.reducePow, Int.reduceToNat, Int.reduceLT, Int.reduceLE, Int.reduceEq, Int.reduceNe, Int.reduceAdd, Int.reduceSub, Int.reduceMul, Int.reduceNeg, h1, h2, e2, o0, o5, o6, o7, decide_false]
    (first | refine cK_vn (hat) ?_ | refine cE_vn (hat) ?_)
    try simp only [go_sem, reduceIte, Nat.reduceEqDiff, Nat.reduceAdd, Nat.reduceSub, Nat.reduceMul, Nat.reduceLT, Nat.reduceLeDiff, Nat.reducePow, Int.reduceToNat, Int.reduceLT, Int.reduceLE, Int.reduceEq, Int.reduceNe, Int.reduceAdd, Int.reduceSub, Int.reduceMul, Int.reduceNeg, h1, h2, e2, e3, Bool.and_self]
    (first | refine cK_vn (hv) ?_ | refine cE_vn (hv) ?_)
    try simp only [go_sem, reduceIte, Nat.reduceEqDiff, Nat.reduceAdd, Nat.reduceSub, Nat.reduceMul, Nat.reduceLT, Nat.reduceLeDiff, Nat.reducePow, Int.reduceToNat, Int.reduceLT, Int.reduceLE, Int.reduceEq, Int.reduceNe, Int.reduceAdd, Int.reduceSub, Int.reduceMul, Int.reduceNeg, h1, h2, e2]
    have N := trivial
    refine new_any fun b7 hb7 => ?_
    have N := And.intro N (box_ne hb7 e2)
    have N := And.intro N (box_ne hb7 e3)
    try simp only [go_sem, reduceIte, Nat.reduceEqDiff, Nat.reduceAdd, Nat.reduceSub, Nat.reduceMul, Nat.reduceLT, Nat.reduceLeDiff, Nat.reducePow, Int.reduceToNat, Int.reduceLT, Int.reduceLE, Int.reduceEq, Int.reduceNe, Int.reduceAdd, Int.reduceSub, Int.reduceMul, Int.reduceNeg, N, h1, h2, e2]
    by_cases o4 : p.op = 4
    · try simp only [go_sem, reduceIte, Nat.reduceEqDiff, Nat.reduceAdd, Nat.reduceSub, Nat.reduceMul, Nat.reduceLT, Nat.reduceLeDiff, Nat.reducePow, Int.reduceToNat, Int.reduceLT, Int.reduceLE, Int.reduceEq, Int.reduceNe, Int.reduceAdd, Int.reduceSub, Int.reduceMul, Int.reduceNeg, N, h1, h2, e2, o4]
      (first | refine cK_vn (ptruth_ok _) ?_ | refine cE_vn (ptruth_ok _) ?_)
      try simp only [go_sem, reduceIte, Nat.reduceEqDiff, Nat.reduceAdd, Nat.reduceSub, Nat.reduceMul, Nat.reduceLT, Nat.reduceLeDiff, Nat.reducePow, Int.reduceToNat, Int.reduceLT, Int.reduceLE, Int.reduceEq, Int.reduceNe, Int.reduceAdd, Int.reduceSub, Int.reduceMul, Int.reduceNeg, N, h1, h2, e2, o4]
      exact finK_drop ⟨by simp [simpleF, o4, D.er, D.er1], rfl, rfl⟩
    cases vn
    · by_cases o1 : p.op = 1
      · by_cases k1 : p.lo ≤ vi
        · have k1' := eq_true k1
          try simp only [go_sem, reduceIte, Nat.reduceEqDiff, Nat.reduceAdd, Nat.reduceSub, Nat.reduceMul, Nat.reduceLT, Nat.reduceLeDiff, Nat.reducePow, Int.reduceToNat, Int.reduceLT, Int.reduceLE, Int.reduceEq, Int.reduceNe, Int.reduceAdd, Int.reduceSub, Int.reduceMul, Int.reduceNeg, N, h1, h2, e2, o4, o1, decide_false, k1', decide_true]
          (first | refine cK_vn (ptruth_ok _) ?_ | refine cE_vn (ptruth_ok _) ?_)
          try simp only [go_sem, reduceIte, Nat.reduceEqDiff, Nat.reduceAdd, Nat.reduceSub, Nat.reduceMul, Nat.reduceLT, Nat.reduceLeDiff, Nat.reducePow, Int.reduceToNat, Int.reduceLT, Int.reduceLE, Int.reduceEq, Int.reduceNe, Int.reduceAdd, Int.reduceSub, Int.reduceMul, Int.reduceNeg, N, h1, h2, e2]
          exact finK_drop ⟨by simp [simpleF, o1, k1, D.er, D.er1], rfl, rfl⟩
        · have k1' := eq_false k1
          try simp only [go_sem, reduceIte, Nat.reduceEqDiff, Nat.reduceAdd, Nat.reduceSub, Nat.reduceMul, Nat.reduceLT, Nat.reduceLeDiff, Nat.reducePow, Int.reduceToNat, Int.reduceLT, Int.reduceLE, Int.reduceEq, Int.reduceNe, Int.reduceAdd, Int.reduceSub, Int.reduceMul, Int.reduceNeg, N, h1, h2, e2, o4, o1, decide_false, k1']
          (first | refine cK_vn (ptruth_ok _) ?_ | refine cE_vn (ptruth_ok _) ?_)
          try simp only [go_sem, reduceIte, Nat.reduceEqDiff, Nat.reduceAdd, Nat.reduceSub, Nat.reduceMul, Nat.reduceLT, Nat.reduceLeDiff, Nat.reducePow, Int.reduceToNat, Int.reduceLT, Int.reduceLE, Int.reduceEq, Int.reduceNe, Int.reduceAdd, Int.reduceSub, Int.reduceMul, Int.reduceNeg, N, h1, h2, e2]
          exact finK_drop ⟨by simp [simpleF, o1, k1, D.er, D.er1], rfl, rfl⟩
      · by_cases o2 : p.op = 2
        · try simp only [go_sem, reduceIte, Nat.reduceEqDiff, Nat.reduceAdd, Nat.reduceSub, Nat.reduceMul, Nat.reduceLT, Nat.reduceLeDiff, Nat.reducePow, Int.reduceToNat, Int.reduceLT, Int.reduceLE, Int.reduceEq, Int.reduceNe, Int.reduceAdd, Int.reduceSub, Int.reduceMul, Int.reduceNeg, N, h1, h2, e2, o4, o1, o2, decide_false, decide_true]
          (first | refine cK_vn (hco) ?_ | refine cE_vn (hco) ?_)
          try simp only [go_sem, reduceIte, Nat.reduceEqDiff, Nat.reduceAdd, Nat.reduceSub, Nat.reduceMul, Nat.reduceLT, Nat.reduceLeDiff, Nat.reducePow, Int.reduceToNat, Int.reduceLT, Int.reduceLE, Int.reduceEq, Int.reduceNe, Int.reduceAdd, Int.reduceSub, Int.reduceMul, Int.reduceNeg, N, h1, h2, e2]
          (first | refine cK_vn (ptruth_ok _) ?_ | refine cE_vn (ptruth_ok _) ?_)
          try simp only [go_sem, reduceIte, Nat.reduceEqDiff, Nat.reduceAdd, Nat.reduceSub, Nat.reduceMul, Nat.reduceLT, Nat.reduceLeDiff, Nat.reducePow, Int.reduceToNat, Int.reduceLT, Int.reduceLE, Int.reduceEq, Int.reduceNe, Int.reduceAdd, Int.reduceSub, Int.reduceMul, Int.reduceNeg, N, h1, h2, e2]
          exact finK_drop ⟨by simp [simpleF, o2, hw rfl, D.er, D.er1], rfl, rfl⟩
        · try simp only [go_sem, reduceIte, Nat.reduceEqDiff, Nat.reduceAdd, Nat.reduceSub, Nat.reduceMul, Nat.reduceLT, Nat.reduceLeDiff, Nat.reducePow, Int.reduceToNat, Int.reduceLT, Int.reduceLE, Int.reduceEq, Int.reduceNe, Int.reduceAdd, Int.reduceSub, Int.reduceMul, Int.reduceNeg, N, h1, h2, e2, o4, o1, o2, decide_false, decide_true]
          (first | refine cK_vn (hpf) ?_ | refine cE_vn (hpf) ?_)
          try simp only [go_sem, reduceIte, Nat.reduceEqDiff, Nat.reduceAdd, Nat.reduceSub, Nat.reduceMul, Nat.reduceLT, Nat.reduceLeDiff, Nat.reducePow, Int.reduceToNat, Int.reduceLT, Int.reduceLE, Int.reduceEq, Int.reduceNe, Int.reduceAdd, Int.reduceSub, Int.reduceMul, Int.reduceNeg, N, h1, h2, e2]
          (first | refine cK_vn (ptruth_ok _) ?_ | refine cE_vn (ptruth_ok _) ?_)
          try simp only [go_sem, reduceIte, Nat.reduceEqDiff, Nat.reduceAdd, Nat.reduceSub, Nat.reduceMul, Nat.reduceLT, Nat.reduceLeDiff, Nat.reducePow, Int.reduceToNat, Int.reduceLT, Int.reduceLE, Int.reduceEq, Int.reduceNe, Int.reduceAdd, Int.reduceSub, Int.reduceMul, Int.reduceNeg, N, h1, h2, e2]
          exact finK_drop ⟨by simp [simpleF, o1, o2, o4, D.er, D.er1], rfl, rfl⟩
    · try simp only [go_sem, reduceIte, Nat.reduceEqDiff, Nat.reduceAdd, Nat.reduceSub, Nat.reduceMul, Nat.reduceLT, Nat.reduceLeDiff, Nat.reducePow, Int.reduceToNat, Int.reduceLT, Int.reduceLE, Int.reduceEq, Int.reduceNe, Int.reduceAdd, Int.reduceSub, Int.reduceMul, Int.reduceNeg, N, h1, h2, e2, o4, decide_false]
      exact finK_drop ⟨by simp [simpleF, o4, D.er, D.er1], rfl, rfl⟩
  · rw [if_neg (show ¬ (p.op = 1 ∨ p.op = 2 ∨ p.op = 3 ∨ p.op = 4) by omega)]
    rw [show (decide (1 ≤ p.op) && decide (p.op ≤ 4)) = false by simp; omega] at hat
    try simp only [go_sem, reduceIte, Nat.reduceEqDiff, Nat.reduceAdd, Nat.reduceSub, Nat.reduceMul, Nat.reduceLT, Nat.reduceLeDiff, Nat.reducePow, Int.reduceToNat, Int.reduceLT, Int.reduceLE, Int.reduceEq, Int.reduceNe, Int.reduceAdd, Int.reduceSub, Int.reduceMul, Int.reduceNeg, h1, h2, e2, o0, o5, o6, o7, decide_false]
    (first | refine cK_vn (hat) ?_ | refine cE_vn (hat) ?_)
    try simp only [go_sem, reduceIte, Nat.reduceEqDiff, Nat.reduceAdd, Nat.reduceSub, Nat.reduceMul, Nat.reduceLT, Nat.reduceLeDiff, Nat.reducePow, Int.reduceToNat, Int.reduceLT, Int.reduceLE, Int.reduceEq, Int.reduceNe, Int.reduceAdd, Int.reduceSub, Int.reduceMul, Int.reduceNeg, h1, h2, e2]
    exact finK_drop ⟨rfl, rfl, rfl⟩
theorem peval_ok (r : Rw) : ∀ (n : Nat) (p : Pr), SizeOf.sizeOf p ≤ n → VN P G 47 [.agg p.cells, .agg [.sl .none (r.map clD)]] (.int .i64 (evalP r p))
  | 0, p, h => by cases p; simp at h
  | n + 1, p, hn => peval_step r p fun k hk => peval_ok r n k (Nat.le_of_lt_succ (Nat.lt_of_lt_of_le (Pr.kid_lt (p := p) hk) hn))
theorem pEval_ok (r : Rw) (p : Pr) : VN P G 47 [.agg p.cells, .agg [.sl .none (r.map clD)]] (.int .i64 (evalP r p)) := peval_ok r _ p (Nat.le_refl _)
def matchF (p : Pr) (r : Rw) : Bool := decide (evalP r p = 1)
theorem pMatch_ok (r : Rw) (p : Pr) : VN P G 27 [.agg p.cells, .agg [.sl .none (r.map clD)]] (.bool (matchF p r)) := by
  have he := pEval_ok (G := G) r p
  unfold VN
  refine VC.ofs (fun | 99999999 => [(0, [0, 1, 2, 3, 4])] | _ => []) [4] mixed Try.func27 rfl rfl rfl rfl (by decide +kernel) (by simp) ?_
  simp only [go_sem, reduceIte, Nat.reduceEqDiff, Nat.reduceAdd, Nat.reduceSub, Nat.reduceMul, Nat.reduceLT, Nat.reduceLeDiff, Nat.reducePow, Int.reduceToNat, Int.reduceLT, Int.reduceLE, Int.reduceEq, Int.reduceNe, Int.reduceAdd, Int.reduceSub, Int.reduceMul, Int.reduceNeg]
  intro b0
  refine new_1 fun b1 h1 h2 => ?_
  try simp only [go_sem, reduceIte, Nat.reduceEqDiff, Nat.reduceAdd, Nat.reduceSub, Nat.reduceMul, Nat.reduceLT, Nat.reduceLeDiff, Nat.reducePow, Int.reduceToNat, Int.reduceLT, Int.reduceLE, Int.reduceEq, Int.reduceNe, Int.reduceAdd, Int.reduceSub, Int.reduceMul, Int.reduceNeg, h1, h2, show p.cells.take 7 = p.cells from rfl, show p.cells.length = 7 from rfl, show isObj p.cells = false from rfl]
  (first | refine cK_vn (he) ?_ | refine cE_vn (he) ?_)
  try simp only [go_sem, reduceIte, Nat.reduceEqDiff, Nat.reduceAdd, Nat.reduceSub, Nat.reduceMul, Nat.reduceLT, Nat.reduceLeDiff, Nat.reducePow, Int.reduceToNat, Int.reduceLT, Int.reduceLE, Int.reduceEq, Int.reduceNe, Int.reduceAdd, Int.reduceSub, Int.reduceMul, Int.reduceNeg, h1, h2]
  exact finK_drop ⟨rfl, rfl, rfl⟩
end Go.Proofs.YtpblgfgcoamgmaaS
