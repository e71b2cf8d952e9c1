import Derived.Test.YtgkfcgfobckaaaaCC
import Derived.Test.YtgkfcgfobckaaaaP1
import Derived.Test.YtgkfcgfobckaaaaVC
set_option linter.unusedVariables false
set_option linter.unusedSimpArgs false
namespace Go.Proofs.YtgkfcgfobckaaaaS
open Go Go.Proofs.YtgkfcgfobckaaaaV

variable {G : Heap}
attribute [local irreducible] VN VC VX VQ

theorem En_at {l : List En} {j : Nat} (h : j < l.length) : ∃ e, l[j]? = some e ∧ (l.map En.d).getD j .any = .agg e.cells := at_map h
/-- Whether a plan reads. -/
def keepF (l : List En) (p : Pr) : List Bool := l.map fun e => mayT e.su p
theorem keepF_len (l : List En) (p : Pr) : (keepF l p).length = l.length := by simp [keepF]
theorem keepF_at {l : List En} {j : Nat} {e : En} (p : Pr) (h : l[j]? = some e) : (keepF l p)[j]? = some (mayT e.su p) := by simp [keepF, h]
theorem isObj_bo (l : List Bool) : isObj (l.map boD) = false := by
  cases l with
  | nil => rfl
  | cons a l => rfl
theorem zeros_bo : ∀ n : Nat, zeros [.bool false] n = (List.replicate n false).map boD
  | 0 => rfl
  | n + 1 => by
    have := zeros_bo n
    simp only [zeros, List.replicate_succ, List.flatten_cons, List.map_cons] at this ⊢
    rw [this]; rfl
theorem flat_bo : ∀ l : List Bool, flat (l.map boD) = l.map boD
  | [] => rfl
  | a :: l => by
    have := flat_bo l
    simp only [flat, List.map_cons, List.flatMap_cons] at this ⊢
    rw [this]; rfl
def doneF (q : List Bool) (j : Nat) : List Bool := q.take j ++ List.replicate (q.length - j) false
theorem doneF_len (q : List Bool) {j : Nat} (h : j ≤ q.length) : (doneF q j).length = q.length := by simp [doneF]; omega
theorem doneF_set {q : List Bool} {j : Nat} {x : Bool} (h : q[j]? = some x) : (doneF q j).set j x = doneF q (j + 1) := by
  have hj := (List.getElem?_eq_some_iff.1 h).1
  have hx := (List.getElem?_eq_some_iff.1 h).2
  refine List.ext_getElem? fun i => ?_
  simp only [doneF, List.getElem?_set, List.getElem?_append, List.length_append, List.length_take, List.length_replicate, List.getElem?_take, List.getElem?_replicate]
  by_cases e : j = i
  · subst e
    have a1 : j < min (j + 1) q.length := by omega
    have a2 : j < j + 1 := by omega
    have a3 : j < min j q.length + (q.length - j) := by omega
    simp only [if_true, a1, a2, a3]
    rw [h]
  · rw [if_neg e]
    by_cases g : i < j
    · have a1 : i < min j q.length := by omega
      have a2 : i < min (j + 1) q.length := by omega
      have a3 : i < j + 1 := by omega
      simp only [a1, a2, a3, g, if_true]
    · have a1 : ¬ i < min j q.length := by omega
      have a2 : ¬ i < min (j + 1) q.length := by omega
      simp only [a1, a2, if_false]
      by_cases g2 : i < q.length
      · rw [if_pos (by omega), if_pos (by omega)]
      · rw [if_neg (by omega), if_neg (by omega)]
theorem doneF_cut {q : List Bool} {j : Nat} {x : Bool} (h : q[j]? = some x) : List.take (0 + j * 1) ((doneF q j).map boD) ++ [D.bool x] ++ List.drop (0 + j * 1 + 1) ((doneF q j).map boD) = (doneF q (j + 1)).map boD := by
  have hj := (List.getElem?_eq_some_iff.1 h).1
  rw [← doneF_set h, List.set_eq_take_append_cons_drop, if_pos (by rw [doneF_len _ (by omega)]; exact hj)]
  simp [List.map_take, List.map_drop, boD]
theorem take_snoc {α : Type} {q : List α} {j : Nat} {x : α} (h : q[j]? = some x) : q.take (j + 1) = q.take j ++ [x] := by
  have hj := (List.getElem?_eq_some_iff.1 h).1
  rw [List.take_succ_eq_append_getElem hj]
  rw [(List.getElem?_eq_some_iff.1 h).2]
theorem Keep_ok (l : List En) (p : Pr) (hl : l.length ≤ 60) (hp : p.Lim) : VN P G 17 [.sl .none (l.map En.d), .agg p.cells] (.sl .none ((keepF l p).map boD)) := by
  unfold VN
  refine VC.turn (Φ1 := fun o β ω => ∃ b, o = .ret (.so b 0 l.length l.length) ∧ β b = some ((keepF l p).map boD)) ?_ ?_ ?_
  · refine VC.ofs (fun | 99999999 => [(0, [0, 1, 3, 4, 5, 6, 7, 11, 12, 13, 14])] | _ => []) [4] mixed Try.func17 rfl rfl rfl rfl (by decide +kernel) (by simp) ?_
    have el : (l.map En.d).length = l.length := by simp
    simp only [go_sem, reduceIte, Nat.reduceEqDiff, Nat.reduceAdd, Nat.reduceSub, Nat.reduceMul, Nat.reduceLT, Nat.reduceLeDiff, Nat.reducePow, Int.reduceToNat, Int.reduceLT, Int.reduceLE, Int.reduceEq, Int.reduceNe, Int.reduceAdd, Int.reduceSub, Int.reduceMul, Int.reduceNeg, el]
    refine fun b => ⟨by omega, by omega, by omega, by omega, new_any fun b1 hb1 => ?_⟩
    simp only [set_none] at hb1
    have n1 := hb1.1
    rw [zeros_bo]
    generalize hβ : Heap.set _ b1 _ = β1
    have e1 : β1 b1 = some ((doneF (keepF l p) 0).map boD) := by rw [← hβ]; simp [Heap.set, doneF, keepF_len]
    have e2 : β1 b = some p.cells := by rw [← hβ]; simp [Heap.set, n1]
    clear hβ hb1
    refine vwq_loop (fun v => ∃ (j : Nat), j ≤ l.length ∧ v.σ 3 = .pb b 0 ∧ v.σ 5 = .so b1 0 l.length l.length ∧ v.σ 11 = .sl .none (l.map En.d) ∧ v.σ 12 = .int .i64 l.length ∧ v.σ 13 = .int .i64 j ∧ v.β b = some p.cells ∧ v.β b1 = some ((doneF (keepF l p) j).map boD)) (fun v => l.length - (ival (v.σ 13)).toNat) ⟨0, by omega, rfl, rfl, rfl, rfl, rfl, e2, e1⟩ ?_
    clear e1 e2 β1
    rintro σ β ω ⟨j, hj, q3, q5, q11, q12, q13, e1, e2⟩
    dsimp only at q3 q5 q11 q12 q13 e1 e2
    try simp only [go_sem, reduceIte, Nat.reduceEqDiff, Nat.reduceAdd, Nat.reduceSub, Nat.reduceMul, Nat.reduceLT, Nat.reduceLeDiff, Nat.reducePow, Int.reduceToNat, Int.reduceLT, Int.reduceLE, Int.reduceEq, Int.reduceNe, Int.reduceAdd, Int.reduceSub, Int.reduceMul, Int.reduceNeg, q3, q5, q11, q12, q13, e1, e2]
    refine cd_dec (fun g => ?_) (fun g => ?_)
    · have g' := eq_true g
      obtain ⟨x, hx, ex⟩ := En_at (l := l) (j := j) (by omega)
      have c1 : ((0 : Int) ≤ j) = True := eq_true (by omega)
      have wj := wrap_i64 (x := (j : Int) + 1) (by omega) (by omega)
      have hm := May_ok (G := G) x.su p hp
      have ho := x.obj
      have hlen := x.length
      have h37 := x.at37
      have h38 := x.at38
      have ht := x.take
      have h1 := x.one
      try simp only [go_sem, reduceIte, Nat.reduceEqDiff, Nat.reduceAdd, Nat.reduceSub, Nat.reduceMul, Nat.reduceLT, Nat.reduceLeDiff, Nat.reducePow, Int.reduceToNat, Int.reduceLT, Int.reduceLE, Int.reduceEq, Int.reduceNe, Int.reduceAdd, Int.reduceSub, Int.reduceMul, Int.reduceNeg, q3, q5, q11, q12, q13, e1, e2, ex, el, g', c1, ho, hlen, ht, h1]
      refine new_any fun b2 hb2 => ?_
      have m1 := box_ne hb2 e1
      have m2 := box_ne hb2 e2
      try simp only [go_sem, reduceIte, Nat.reduceEqDiff, Nat.reduceAdd, Nat.reduceSub, Nat.reduceMul, Nat.reduceLT, Nat.reduceLeDiff, Nat.reducePow, Int.reduceToNat, Int.reduceLT, Int.reduceLE, Int.reduceEq, Int.reduceNe, Int.reduceAdd, Int.reduceSub, Int.reduceMul, Int.reduceNeg, q3, q5, q11, q12, q13, e1, e2, ex, el, g', c1, m1, m2, ho, hlen, h37, h38, ht, h1, x.sum, p.take7, p.obj, p.len7]
      refine cK_vn hm ?_
      try simp only [go_sem, reduceIte, Nat.reduceEqDiff, Nat.reduceAdd, Nat.reduceSub, Nat.reduceMul, Nat.reduceLT, Nat.reduceLeDiff, Nat.reducePow, Int.reduceToNat, Int.reduceLT, Int.reduceLE, Int.reduceEq, Int.reduceNe, Int.reduceAdd, Int.reduceSub, Int.reduceMul, Int.reduceNeg, q3, q5, q11, q12, q13, e1, e2, ex, el, g', c1, m1, m2, ho, hlen, h37, h38, ht, h1, x.sum, p.take7, p.obj, p.len7, wj]
      refine ⟨isObj_bo _, by rw [List.length_map, doneF_len _ (by rw [keepF_len]; exact hj), keepF_len]; omega, ⟨j + 1, by omega, rfl, ?_, ?_⟩, by omega⟩
      · rw [if_neg n1.1]
      · rw [doneF_cut (keepF_at p hx)]
    · try simp only [go_sem, reduceIte, Nat.reduceEqDiff, Nat.reduceAdd, Nat.reduceSub, Nat.reduceMul, Nat.reduceLT, Nat.reduceLeDiff, Nat.reducePow, Int.reduceToNat, Int.reduceLT, Int.reduceLE, Int.reduceEq, Int.reduceNe, Int.reduceAdd, Int.reduceSub, Int.reduceMul, Int.reduceNeg, q3, q5, q11, q12, q13, e1, e2]
      refine YtgkfcgfobckaaaaV.finK_var e2 ⟨b1, rfl, ?_⟩
      obtain rfl : j = l.length := by omega
      simp only [Heap.set, if_true, doneF, keepF_len, Nat.sub_self, List.replicate_zero, List.append_nil]
      rw [List.take_of_length_le (by rw [keepF_len]; omega)]
  · rintro d β' ω' ⟨b, h1, hb⟩
    cases h1
    refine Turn.bind (Turn.freeze (m := 1) (xs := (keepF l p).map boD) hb (isObj_bo _) (by omega) (by simp [keepF_len]) ?_ ?_ (by simp [keepF_len]) (by simp [mostLen]; omega)) ?_
    · rw [flat_bo, List.take_of_length_le (by simp [keepF_len])]
    · intro x hx
      obtain ⟨y, _, rfl⟩ := List.mem_map.1 hx
      rfl
    · rintro d β ω ⟨t, ht, rfl, rfl, rfl⟩
      exact Turn.weak (finK_drop ⟨rfl, rfl, rfl⟩)
  · rintro d β' ω' ⟨b, h1, _⟩
    cases h1
theorem refKeep_ok (l : List En) (p : Pr) (hl : l.length ≤ 60) (hp : p.Lim) : VN P G 18 [.sl .none (l.map En.d), .agg p.cells] (.sl .none ((keepF l p).map boD)) := by
  unfold VN
  refine VC.ofs (fun | 5 => [(0, []), (1, []), (2, []), (3, []), (4, []), (5, []), (6, []), (7, []), (8, []), (9, []), (10, [])] | 99999999 => [(0, [0, 1, 3, 4, 5, 6, 11])] | _ => []) [4] mixed Try.func18 rfl rfl rfl rfl (by decide +kernel) (by simp) ?_
  have el : (l.map En.d).length = l.length := by simp
  simp only [go_sem, reduceIte, Nat.reduceEqDiff, Nat.reduceAdd, Nat.reduceSub, Nat.reduceMul, Nat.reduceLT, Nat.reduceLeDiff, Nat.reducePow, Int.reduceToNat, Int.reduceLT, Int.reduceLE, Int.reduceEq, Int.reduceNe, Int.reduceAdd, Int.reduceSub, Int.reduceMul, Int.reduceNeg, el]
  intro b
  generalize hβ : Heap.set Heap.nil b _ = β0
  have e0 : β0 b = some p.cells := by rw [← hβ]; simp only [Heap.set, if_true]
  clear hβ
  refine vwq_loop (fun v => ∃ (j : Nat) (tk : Tk), j ≤ l.length ∧ TW 1 tk v.ω ∧ v.σ 0 = .sl .none (l.map En.d) ∧ v.σ 3 = .pb b 0 ∧ v.σ 5 = .sl tk (((keepF l p).take j).map boD) ∧ v.σ 6 = .int .i64 j ∧ v.β = β0) (fun v => l.length - (ival (v.σ 6)).toNat) ⟨0, .full, by omega, TW.full 1, rfl, rfl, rfl, rfl, rfl⟩ ?_
  rintro σ β ω ⟨j, tk, hj, hw, q0, q3, q5, q6, rfl⟩
  dsimp only at q0 q3 q5 q6 hw e0
  have ho := hw.ok
  have hg := hw.gone
  try simp only [go_sem, reduceIte, Nat.reduceEqDiff, Nat.reduceAdd, Nat.reduceSub, Nat.reduceMul, Nat.reduceLT, Nat.reduceLeDiff, Nat.reducePow, Int.reduceToNat, Int.reduceLT, Int.reduceLE, Int.reduceEq, Int.reduceNe, Int.reduceAdd, Int.reduceSub, Int.reduceMul, Int.reduceNeg, q0, q3, q5, q6, e0, el]
  refine cd_dec (fun g => ?_) (fun g => ?_)
  · have g' := eq_true g
    obtain ⟨x, hx, ex⟩ := En_at (l := l) (j := j) (by omega)
    have c1 : ((0 : Int) ≤ j) = True := eq_true (by omega)
    have wj := wrap_i64 (x := (j : Int) + 1) (by omega) (by omega)
    have hm := refMay_ok (G := G) x.su p hp
    have hob := x.obj
    have hlen := x.length
    have h37 := x.at37
    have h38 := x.at38
    have ht := x.take
    have h1 := x.one
    try simp only [go_sem, reduceIte, Nat.reduceEqDiff, Nat.reduceAdd, Nat.reduceSub, Nat.reduceMul, Nat.reduceLT, Nat.reduceLeDiff, Nat.reducePow, Int.reduceToNat, Int.reduceLT, Int.reduceLE, Int.reduceEq, Int.reduceNe, Int.reduceAdd, Int.reduceSub, Int.reduceMul, Int.reduceNeg, q0, q3, q5, q6, e0, el, ex, g', c1, hob, hlen, h37, h38, ht, h1, x.sum, p.take7, p.obj, p.len7]
    refine ⟨by rw [List.length_drop, hlen]; omega, cE_vn hm ?_⟩
    try simp only [go_sem, reduceIte, Nat.reduceEqDiff, Nat.reduceAdd, Nat.reduceSub, Nat.reduceMul, Nat.reduceLT, Nat.reduceLeDiff, Nat.reducePow, Int.reduceToNat, Int.reduceLT, Int.reduceLE, Int.reduceEq, Int.reduceNe, Int.reduceAdd, Int.reduceSub, Int.reduceMul, Int.reduceNeg, q0, q3, q5, q6, e0, el, ex, g', c1, hob, hlen, h37, h38, ht, h1, x.sum, p.take7, p.obj, p.len7, ho, hg, wj]
    refine ⟨fun x hx => ?_, by simp only [List.length_map, List.length_take]; omega, fun t' _ => ⟨⟨j + 1, .live t' 1, by omega, TW.live 1 t', ?_, rfl⟩, by omega⟩⟩
    · obtain ⟨y, _, rfl⟩ := List.mem_map.1 hx
      rfl
    · rw [take_snoc (keepF_at p hx)]; simp [boD]
  · try simp only [go_sem, reduceIte, Nat.reduceEqDiff, Nat.reduceAdd, Nat.reduceSub, Nat.reduceMul, Nat.reduceLT, Nat.reduceLeDiff, Nat.reducePow, Int.reduceToNat, Int.reduceLT, Int.reduceLE, Int.reduceEq, Int.reduceNe, Int.reduceAdd, Int.reduceSub, Int.reduceMul, Int.reduceNeg, q0, q3, q5, q6, e0, el]
    obtain rfl : j = l.length := by omega
    exact finK_drop ⟨by rw [← keepF_len l p, List.take_length]; rfl, rfl, rfl⟩

/-! Plans. -/
def rdL (ks : List Bool) (j : Nat) : List Int := ((List.range j).filter fun i => ks.getD i false).map fun (i : Nat) => (i : Int)
def skL (ks : List Bool) (j : Nat) : List Int := ((List.range j).filter fun i => !ks.getD i false).map fun (i : Nat) => (i : Int)
def costAt (l : List En) (i : Nat) : Int := (l[i]?.map costF).getD 0
def byL (l : List En) (ks : List Bool) (j : Nat) : Int := (((List.range j).filter fun i => ks.getD i false).map (costAt l)).sum
def plF (l : List En) (ks : List Bool) (j : Nat) : Pl := ⟨rdL ks j, skL ks j, (rdL ks j).length, byL l ks j⟩
theorem rdL_yes {ks : List Bool} {j : Nat} (h : ks.getD j false = true) : rdL ks (j + 1) = rdL ks j ++ [(j : Int)] := by
  simp only [rdL, List.range_succ, List.filter_append, List.map_append, List.filter_cons, h, if_true, List.filter_nil, List.map_cons, List.map_nil]
theorem rdL_no {ks : List Bool} {j : Nat} (h : ks.getD j false = false) : rdL ks (j + 1) = rdL ks j := by
  simp [rdL, List.range_succ, List.filter_append, List.filter_cons, h, -List.getD_eq_getElem?_getD]
theorem skL_yes {ks : List Bool} {j : Nat} (h : ks.getD j false = true) : skL ks (j + 1) = skL ks j := by
  simp [skL, List.range_succ, List.filter_append, List.filter_cons, h, -List.getD_eq_getElem?_getD]
theorem skL_no {ks : List Bool} {j : Nat} (h : ks.getD j false = false) : skL ks (j + 1) = skL ks j ++ [(j : Int)] := by
  simp [skL, List.range_succ, List.filter_append, List.filter_cons, h, -List.getD_eq_getElem?_getD]
theorem byL_yes {l : List En} {ks : List Bool} {j : Nat} {e : En} (h : ks.getD j false = true) (he : l[j]? = some e) : byL l ks (j + 1) = byL l ks j + costF e := by
  simp [byL, List.range_succ, List.filter_append, List.filter_cons, h, costAt, he, -List.getD_eq_getElem?_getD]
theorem byL_no {l : List En} {ks : List Bool} {j : Nat} (h : ks.getD j false = false) : byL l ks (j + 1) = byL l ks j := by
  simp [byL, List.range_succ, List.filter_append, List.filter_cons, h, -List.getD_eq_getElem?_getD]
theorem rdL_le (ks : List Bool) (j : Nat) : (rdL ks j).length ≤ j := by
  have := List.length_filter_le (fun i => ks.getD i false) (List.range j)
  simpa [rdL, -List.getD_eq_getElem?_getD] using this
theorem skL_le (ks : List Bool) (j : Nat) : (skL ks j).length ≤ j := by
  have := List.length_filter_le (fun i => !ks.getD i false) (List.range j)
  simpa [skL, -List.getD_eq_getElem?_getD] using this
theorem byL_bd {l : List En} (hl : ∀ e ∈ l, e.su.l.length ≤ 100) (ks : List Bool) : ∀ j : Nat, 0 ≤ byL l ks j ∧ byL l ks j ≤ j * 2000000000000
  | 0 => by simp [byL]
  | j + 1 => by
    obtain ⟨h1, h2⟩ := byL_bd hl ks j
    by_cases h : ks.getD j false = true
    · cases he : l[j]? with
      | none =>
        have : byL l ks (j + 1) = byL l ks j := by simp [byL, List.range_succ, List.filter_append, List.filter_cons, h, costAt, he, -List.getD_eq_getElem?_getD]
        rw [this]; omega
      | some e =>
        rw [byL_yes h he]
        have := cost_bd (hl e (List.mem_of_getElem? he))
        omega
    · rw [byL_no (by simpa using h)]
      omega
/-- Two rows that are appended to. -/
def TW2 (t1 t2 : Tk) (ω : List Nat) : Prop := tokOk 1 ω t1 ∧ tokOk 1 ω t2 ∧ ∀ a b m n, t1 = .live a m → t2 = .live b n → a ≠ b
theorem TW2.full (ω : List Nat) : TW2 .full .full ω := ⟨trivial, trivial, fun _ _ _ _ h => by cases h⟩
theorem tok_keep {t1 t2 : Tk} {ω : List Nat} {t' : Nat} (h : tokOk 1 ω t2) (hd : ∀ a b m n, t1 = .live a m → t2 = .live b n → a ≠ b) : tokOk 1 (t' :: tokGone ω t1) t2 := by
  cases t2 with
  | none => exact h
  | full => trivial
  | live b n =>
    refine ⟨List.mem_cons_of_mem _ ?_, h.2⟩
    cases t1 with
    | none => exact h.1
    | full => exact h.1
    | live a m => simp only [tokGone, List.mem_filter]; exact ⟨h.1, by have := hd a b m n rfl rfl; simp; omega⟩
theorem tok_new {t2 : Tk} {ω : List Nat} {t' : Nat} (h : tokOk 1 ω t2) (hn : t' ∉ ω) : ∀ a b m n, Tk.live t' 1 = .live a m → t2 = .live b n → a ≠ b := fun a b m n e1 e2 => by
  cases e1; subst e2
  rintro rfl
  exact hn h.1
theorem TW2.left {t1 t2 : Tk} {ω : List Nat} {t' : Nat} (h : TW2 t1 t2 ω) (hn : t' ∉ ω) : TW2 (.live t' 1) t2 (t' :: tokGone ω t1) :=
  ⟨⟨List.mem_cons_self .., rfl⟩, tok_keep h.2.1 h.2.2, tok_new h.2.1 hn⟩
theorem TW2.right {t1 t2 : Tk} {ω : List Nat} {t' : Nat} (h : TW2 t1 t2 ω) (hn : t' ∉ ω) : TW2 t1 (.live t' 1) (t' :: tokGone ω t2) :=
  ⟨tok_keep h.1 fun a b m n e1 e2 => (h.2.2 b a n m e2 e1).symm, ⟨List.mem_cons_self .., rfl⟩, fun a b m n e1 e2 => (tok_new h.1 hn b a n m e2 e1).symm⟩

section
variable {β : Heap} {ω : List Nat} {f : FuncId} {args fs cs : List D} {ops : Array Oper} {rest : List Oper} {es : List Ent} {Q : VE → St → Prop} {dst : Option Tmp} {σ : Sg} {Φ : Out → Heap → List Nat → Prop}
theorem cK_clo (h : VC P G f (fs ++ args ++ cs) β ω Φ) (hk : ∀ d β' ω', Φ (.ret d) β' ω' → Ko P G ops rest Q dst σ d β' ω') (hq : ∀ d β' ω', ¬ Φ (.pan d) β' ω') : cK P G (.clo (.func f) fs cs) args β ω ops rest Q dst σ := by
  have : VC P G f (fs ++ args ++ cs) β ω (fun o β' ω' => match o with | .ret d => Ko P G ops rest Q dst σ d β' ω' | .pan d => Q (.panic d) ⟨σ, β', ω'⟩) :=
    h.mono fun o β' ω' hf => by
      cases o with
      | ret d => exact hk d β' ω' hf
      | pan d => exact (hq d β' ω' hf).elim
  exact this
end
theorem set_set' {β : Heap} {b : Nat} {x y : List D} : (β.set b x).set b y = β.set b y := by
  funext i
  unfold Heap.set
  split <;> rfl
set_option maxHeartbeats 1000000 in
theorem Scan1_ok {β : Heap} {ω : List Nat} {bo bl : Nat} {t1 t2 : Tk} {l : List En} {R S : List Int} {q y : Int} {i : Nat} {e : En} (hn : bo ≠ bl) (h1 : β bo = some [.sl t1 (R.map iD), .sl t2 (S.map iD), .int .i64 q, .int .i64 y]) (h2 : β bl = some [.sl .none (l.map En.d)])
    (hR : R.length ≤ 100) (hq : 0 ≤ q ∧ q ≤ 100) (hy : 0 ≤ y ∧ y ≤ 200000000000000) (ho : tokOk 1 ω t1) (he : l[i]? = some e) (hi : i < 100) (hc : e.su.l.length ≤ 100) :
    VC P G 30 ([] ++ [.int .i64 i] ++ [.pb bo 0, .pb bl 0]) β ω fun o β' ω' => o = .ret (.tup []) ∧ ∃ t', t' ∉ ω ∧ β' = β.set bo [.sl (.live t' 1) ((R ++ [(i : Int)]).map iD), .sl t2 (S.map iD), .int .i64 (q + 1), .int .i64 (y + costF e)] ∧ ω' = t' :: tokGone ω t1 := by
  refine VC.ofs (fun | 2 => [(0, []), (1, [6]), (2, []), (3, []), (4, []), (5, []), (6, []), (7, []), (8, []), (9, [])] | 99999999 => [(0, [0, 1, 2])] | _ => []) [] mixed Try.func30 rfl rfl rfl rfl (by decide +kernel) (by simp) ?_
  have ho' := eq_true ho
  have hil := (List.getElem?_eq_some_iff.1 he).1
  obtain ⟨x, hx, ex⟩ := En_at (l := l) (j := i) hil
  obtain rfl : x = e := Option.some.inj (hx.symm.trans he)
  have c1 : ((0 : Int) ≤ i) = True := eq_true (by omega)
  have c2 : ((i : Int) < ((l.map En.d).length : Nat)) = True := eq_true (by rw [List.length_map]; omega)
  have hcb := cost_bd hc
  have w1 := wrap_i64 (x := q + 1) (by omega) (by omega)
  have w2 := wrap_i64 (x := y + costF x) (by omega) (by omega)
  have hcost := Cost_ok (G := G) x hc
  have hob := x.obj
  have hlen := x.length
  have ht := x.take
  simp only [go_sem, reduceIte, Nat.reduceEqDiff, Nat.reduceAdd, Nat.reduceSub, Nat.reduceMul, Nat.reduceLT, Nat.reduceLeDiff, Nat.reducePow, Int.reduceToNat, Int.reduceLT, Int.reduceLE, Int.reduceEq, Int.reduceNe, Int.reduceAdd, Int.reduceSub, Int.reduceMul, Int.reduceNeg, h1, h2, ho', hn, hn.symm, ex, c1, c2, w1, hob, hlen, ht]
  refine ⟨?_, by rw [List.length_map]; omega, fun t' ht' => ?_⟩
  · intro x hx
    obtain ⟨y, _, rfl⟩ := List.mem_map.1 hx
    rfl
  refine cE_vn hcost ?_
  simp only [go_sem, reduceIte, Nat.reduceEqDiff, Nat.reduceAdd, Nat.reduceSub, Nat.reduceMul, Nat.reduceLT, Nat.reduceLeDiff, Nat.reducePow, Int.reduceToNat, Int.reduceLT, Int.reduceLE, Int.reduceEq, Int.reduceNe, Int.reduceAdd, Int.reduceSub, Int.reduceMul, Int.reduceNeg, h1, h2, ho', hn, hn.symm, ex, c1, c2, w1, w2, hob, hlen, ht]
  refine ⟨by simp [rdAdd], finK_exact ⟨rfl, t', ht', ?_, rfl⟩⟩
  rw [set_set', set_set', List.map_append]
  rfl
theorem iD_cells (l : List Int) : ∀ x ∈ l.map iD, x.cells.length = 1 := fun x hx => by
  obtain ⟨y, _, rfl⟩ := List.mem_map.1 hx; rfl
theorem er_iD (l : List Int) : (l.map iD).map D.er = l.map iD := by
  rw [List.map_map]; exact List.map_congr_left fun b _ => rfl
set_option maxHeartbeats 2000000 in
theorem Scan_ok (l : List En) (p : Pr) (hl : l.length ≤ 60) (hc : ∀ e ∈ l, e.su.l.length ≤ 100) (hp : p.Lim) : VN P G 14 [.sl .none (l.map En.d), .agg p.cells] (.agg (plF l (keepF l p) l.length).cells) := by
  have hk := Keep_ok (G := G) l p hl hp
  unfold VN
  refine VC.ofc (fun | 99999999 => [(0, [0, 1, 2, 3, 4, 5, 6, 7, 8, 12, 13, 14, 15, 19])] | _ => []) [.cell 4 42] mixed Try.func14 rfl rfl rfl rfl (by decide +kernel) (by simp) ?_
  have ek : ((keepF l p).map boD).length = l.length := by simp [keepF]
  simp only [go_sem, reduceIte, Nat.reduceEqDiff, Nat.reduceAdd, Nat.reduceSub, Nat.reduceMul, Nat.reduceLT, Nat.reduceLeDiff, Nat.reducePow, Int.reduceToNat, Int.reduceLT, Int.reduceLE, Int.reduceEq, Int.reduceNe, Int.reduceAdd, Int.reduceSub, Int.reduceMul, Int.reduceNeg]
  intro b2
  refine new_1 fun b3 h1 h2 => ?_
  simp only [go_sem, reduceIte, Nat.reduceEqDiff, Nat.reduceAdd, Nat.reduceSub, Nat.reduceMul, Nat.reduceLT, Nat.reduceLeDiff, Nat.reducePow, Int.reduceToNat, Int.reduceLT, Int.reduceLE, Int.reduceEq, Int.reduceNe, Int.reduceAdd, Int.reduceSub, Int.reduceMul, Int.reduceNeg, h1, h2]
  refine new_any fun b4 hb4 => ?_
  simp only [set_none] at hb4
  have n4 := hb4
  simp only [go_sem, reduceIte, Nat.reduceEqDiff, Nat.reduceAdd, Nat.reduceSub, Nat.reduceMul, Nat.reduceLT, Nat.reduceLeDiff, Nat.reducePow, Int.reduceToNat, Int.reduceLT, Int.reduceLE, Int.reduceEq, Int.reduceNe, Int.reduceAdd, Int.reduceSub, Int.reduceMul, Int.reduceNeg, h1, h2, n4]
  refine new_any fun b5 hb5 => ?_
  simp only [set_none] at hb5
  have n5 := hb5
  simp only [go_sem, reduceIte, Nat.reduceEqDiff, Nat.reduceAdd, Nat.reduceSub, Nat.reduceMul, Nat.reduceLT, Nat.reduceLeDiff, Nat.reducePow, Int.reduceToNat, Int.reduceLT, Int.reduceLE, Int.reduceEq, Int.reduceNe, Int.reduceAdd, Int.reduceSub, Int.reduceMul, Int.reduceNeg, h1, h2, n4, n5, p.take7, p.obj, p.len7]
  refine cK_vn hk ?_
  simp only [go_sem, reduceIte, Nat.reduceEqDiff, Nat.reduceAdd, Nat.reduceSub, Nat.reduceMul, Nat.reduceLT, Nat.reduceLeDiff, Nat.reducePow, Int.reduceToNat, Int.reduceLT, Int.reduceLE, Int.reduceEq, Int.reduceNe, Int.reduceAdd, Int.reduceSub, Int.reduceMul, Int.reduceNeg, h1, h2, n4, n5, ek]
  generalize hβ : Heap.set _ b5 _ = β0
  have n25 : b2 ≠ b5 ∧ b5 ≠ b2 := by simp_all
  have n45 : b4 ≠ b5 ∧ b5 ≠ b4 := by simp_all
  have n24 : b2 ≠ b4 ∧ b4 ≠ b2 := by simp_all
  have e2 : β0 b2 = some [.sl .none (l.map En.d)] := by rw [← hβ]; simp [Heap.set, n25, n24, h1, h2]
  have e4 : β0 b4 = some [.sl .full [], .sl .full [], .int .i64 0, .int .i64 0] := by rw [← hβ]; simp [Heap.set, n45]
  have e5 : β0 b5 = some [.sl .full [], .sl .full [], .int .i64 0, .int .i64 0] := by rw [← hβ]; simp [Heap.set]
  clear hβ hb4 hb5 n4 n5 h1 h2 hk
  have lk : (keepF l p).length = l.length := keepF_len l p
  generalize hks : keepF l p = ks at *
  refine vwq_loop (fun v => ∃ (j : Nat) (t1 t2 : Tk), j ≤ l.length ∧ TW2 t1 t2 v.ω ∧ v.σ 4 = .pb b4 0 ∧ v.σ 5 = .pb b5 0 ∧ v.σ 6 = .clo (.func 30) [] [.pb b5 0, .pb b2 0] ∧ v.σ 12 = .sl .none (ks.map boD) ∧ v.σ 13 = .int .i64 l.length ∧ v.σ 14 = .int .i64 j ∧ v.β b2 = some [.sl .none (l.map En.d)] ∧ v.β b4 = some [.sl .full [], .sl .full [], .int .i64 0, .int .i64 0] ∧ v.β b5 = some [.sl t1 ((rdL ks j).map iD), .sl t2 ((skL ks j).map iD), .int .i64 (rdL ks j).length, .int .i64 (byL l ks j)]) (fun v => l.length - (ival (v.σ 14)).toNat) ⟨0, .full, .full, by omega, TW2.full _, rfl, rfl, rfl, rfl, rfl, rfl, e2, e4, e5⟩ ?_
  clear e2 e4 e5 β0
  rintro σ β ω ⟨j, t1, t2, hj, hw, q4, q5, q6, q12, q13, q14, e2, e4, e5⟩
  dsimp only at q4 q5 q6 q12 q13 q14 e2 e4 e5 hw
  try simp only [go_sem, reduceIte, Nat.reduceEqDiff, Nat.reduceAdd, Nat.reduceSub, Nat.reduceMul, Nat.reduceLT, Nat.reduceLeDiff, Nat.reducePow, Int.reduceToNat, Int.reduceLT, Int.reduceLE, Int.reduceEq, Int.reduceNe, Int.reduceAdd, Int.reduceSub, Int.reduceMul, Int.reduceNeg, q4, q5, q6, q12, q13, q14, e2, e4, e5]
  refine cd_dec (fun g => ?_) (fun g => ?_)
  · have g' := eq_true g
    have ex := boD_at (l := ks) (j := j) (by omega)
    have c1 : ((0 : Int) ≤ j) = True := eq_true (by omega)
    have c2 : ((j : Int) < ((ks.map boD).length : Nat)) = True := eq_true (by rw [List.length_map]; omega)
    have wj := wrap_i64 (x := (j : Int) + 1) (by omega) (by omega)
    obtain ⟨e, he⟩ : ∃ e, l[j]? = some e := ⟨l[j]'(by omega), by simp⟩
    have hb := byL_bd hc ks j
    have hr := rdL_le ks j
    have hs := skL_le ks j
    by_cases hk : ks.getD j false = true
    · have hk' := hk
      try simp only [go_sem, reduceIte, Nat.reduceEqDiff, Nat.reduceAdd, Nat.reduceSub, Nat.reduceMul, Nat.reduceLT, Nat.reduceLeDiff, Nat.reducePow, Int.reduceToNat, Int.reduceLT, Int.reduceLE, Int.reduceEq, Int.reduceNe, Int.reduceAdd, Int.reduceSub, Int.reduceMul, Int.reduceNeg, q4, q5, q6, q12, q13, q14, e2, e4, e5, ex, c1, c2, hk]
      refine cK_clo (Scan1_ok (t1 := t1) (t2 := t2) n25.2 e5 e2 (by omega) (by omega) (by omega) hw.1 he (by omega) (hc e (List.mem_of_getElem? he))) ?_ ?_
      · rintro d β' ω' ⟨h1, t', ht', rfl, rfl⟩
        cases h1
        try simp only [go_sem, reduceIte, Nat.reduceEqDiff, Nat.reduceAdd, Nat.reduceSub, Nat.reduceMul, Nat.reduceLT, Nat.reduceLeDiff, Nat.reducePow, Int.reduceToNat, Int.reduceLT, Int.reduceLE, Int.reduceEq, Int.reduceNe, Int.reduceAdd, Int.reduceSub, Int.reduceMul, Int.reduceNeg, q4, q5, q6, q12, q13, q14, wj]
        refine ⟨⟨j + 1, .live t' 1, t2, by omega, hw.left ht', rfl, ?_, ?_, ?_⟩, by omega⟩
        · simp [Heap.set, n25, e2]
        · simp [Heap.set, n45, e4]
        · simp only [Heap.set, if_true, rdL_yes hk', skL_yes hk', byL_yes hk' he, List.length_append, List.length_cons, List.length_nil]
          simp
      · rintro d β' ω' ⟨h1, _⟩
        cases h1
    · have hk' : ks.getD j false = false := by simpa using hk
      have ho := eq_true hw.2.1
      try simp only [go_sem, reduceIte, Nat.reduceEqDiff, Nat.reduceAdd, Nat.reduceSub, Nat.reduceMul, Nat.reduceLT, Nat.reduceLeDiff, Nat.reducePow, Int.reduceToNat, Int.reduceLT, Int.reduceLE, Int.reduceEq, Int.reduceNe, Int.reduceAdd, Int.reduceSub, Int.reduceMul, Int.reduceNeg, q4, q5, q6, q12, q13, q14, e2, e4, e5, ex, c1, c2, hk', ho, wj]
      refine ⟨iD_cells _, by rw [List.length_map]; omega, fun t' ht' => ⟨⟨j + 1, t1, .live t' 1, by omega, hw.right ht', rfl, ?_, ?_, ?_⟩, by omega⟩⟩
      · simp [Heap.set, n25, e2]
      · simp [Heap.set, n45, e4]
      · simp only [Heap.set, if_true, rdL_no hk', skL_no hk', byL_no hk', List.map_append]
        rfl
  · try simp only [go_sem, reduceIte, Nat.reduceEqDiff, Nat.reduceAdd, Nat.reduceSub, Nat.reduceMul, Nat.reduceLT, Nat.reduceLeDiff, Nat.reducePow, Int.reduceToNat, Int.reduceLT, Int.reduceLE, Int.reduceEq, Int.reduceNe, Int.reduceAdd, Int.reduceSub, Int.reduceMul, Int.reduceNeg, q4, q5, q6, q12, q13, q14, e2, e4, e5]
    obtain rfl : j = l.length := by omega
    exact finK_drop ⟨by simp only [plF, Pl.cells, D.er, List.map_cons, List.map_nil, er_iD]; rfl, rfl, rfl⟩
set_option maxHeartbeats 2000000 in
theorem refScan_ok (l : List En) (p : Pr) (hl : l.length ≤ 60) (hc : ∀ e ∈ l, e.su.l.length ≤ 100) (hp : p.Lim) : VN P G 15 [.sl .none (l.map En.d), .agg p.cells] (.agg (plF l (keepF l p) l.length).cells) := by
  have hk := refKeep_ok (G := G) l p hl hp
  unfold VN
  refine VC.ofc (fun | 8 => [(0, []), (1, [6]), (2, []), (3, []), (4, []), (5, []), (6, []), (7, []), (8, []), (9, [])] | 99999999 => [(0, [0, 1, 3, 4, 5, 6, 7, 15, 21])] | _ => []) [.cell 4 42] mixed Try.func15 rfl rfl rfl rfl (by decide +kernel) (by simp) ?_
  have ek : ((keepF l p).map boD).length = l.length := by simp [keepF]
  have el : (l.map En.d).length = l.length := by simp
  simp only [go_sem, reduceIte, Nat.reduceEqDiff, Nat.reduceAdd, Nat.reduceSub, Nat.reduceMul, Nat.reduceLT, Nat.reduceLeDiff, Nat.reducePow, Int.reduceToNat, Int.reduceLT, Int.reduceLE, Int.reduceEq, Int.reduceNe, Int.reduceAdd, Int.reduceSub, Int.reduceMul, Int.reduceNeg]
  intro b3
  refine new_1 fun b4 h1 h2 => ?_
  try simp only [go_sem, reduceIte, Nat.reduceEqDiff, Nat.reduceAdd, Nat.reduceSub, Nat.reduceMul, Nat.reduceLT, Nat.reduceLeDiff, Nat.reducePow, Int.reduceToNat, Int.reduceLT, Int.reduceLE, Int.reduceEq, Int.reduceNe, Int.reduceAdd, Int.reduceSub, Int.reduceMul, Int.reduceNeg, h1, h2, p.take7, p.obj, p.len7]
  refine cK_vn hk ?_
  try simp only [go_sem, reduceIte, Nat.reduceEqDiff, Nat.reduceAdd, Nat.reduceSub, Nat.reduceMul, Nat.reduceLT, Nat.reduceLeDiff, Nat.reducePow, Int.reduceToNat, Int.reduceLT, Int.reduceLE, Int.reduceEq, Int.reduceNe, Int.reduceAdd, Int.reduceSub, Int.reduceMul, Int.reduceNeg, h1, h2, p.take7, p.obj, p.len7]
  refine new_any fun b6 hb6 => ?_
  simp only [set_none] at hb6
  have n6 := hb6
  try simp only [go_sem, reduceIte, Nat.reduceEqDiff, Nat.reduceAdd, Nat.reduceSub, Nat.reduceMul, Nat.reduceLT, Nat.reduceLeDiff, Nat.reducePow, Int.reduceToNat, Int.reduceLT, Int.reduceLE, Int.reduceEq, Int.reduceNe, Int.reduceAdd, Int.reduceSub, Int.reduceMul, Int.reduceNeg, h1, h2, n6]
  generalize hβ : Heap.set _ b6 _ = β0
  have n46 : b4 ≠ b6 ∧ b6 ≠ b4 := by simp_all
  have e4 : β0 b4 = some [.sl .full [], .sl .full [], .int .i64 0, .int .i64 0] := by rw [← hβ]; simp [Heap.set, n46]
  have e6 : β0 b6 = some [.sl .full [], .sl .full [], .int .i64 0, .int .i64 0] := by rw [← hβ]; simp [Heap.set]
  clear hβ hb6 n6 h1 h2 hk
  have lk : (keepF l p).length = l.length := keepF_len l p
  generalize hks : keepF l p = ks at *
  refine vwq_loop (fun v => ∃ (j : Nat) (t1 t2 : Tk), j ≤ l.length ∧ TW2 t1 t2 v.ω ∧ v.σ 0 = .sl .none (l.map En.d) ∧ v.σ 4 = .pb b4 0 ∧ v.σ 6 = .pb b6 0 ∧ v.σ 5 = .sl .none (ks.map boD) ∧ v.σ 7 = .int .i64 j ∧ v.β b4 = some [.sl .full [], .sl .full [], .int .i64 0, .int .i64 0] ∧ v.β b6 = some [.sl t1 ((rdL ks j).map iD), .sl t2 ((skL ks j).map iD), .int .i64 (rdL ks j).length, .int .i64 (byL l ks j)]) (fun v => l.length - (ival (v.σ 7)).toNat) ⟨0, .full, .full, by omega, TW2.full _, rfl, rfl, rfl, rfl, rfl, e4, e6⟩ ?_
  clear e4 e6 β0
  rintro σ β ω ⟨j, t1, t2, hj, hw, q0, q4, q6, q5, q7, e4, e6⟩
  dsimp only at q0 q4 q5 q6 q7 e4 e6 hw
  try simp only [go_sem, reduceIte, Nat.reduceEqDiff, Nat.reduceAdd, Nat.reduceSub, Nat.reduceMul, Nat.reduceLT, Nat.reduceLeDiff, Nat.reducePow, Int.reduceToNat, Int.reduceLT, Int.reduceLE, Int.reduceEq, Int.reduceNe, Int.reduceAdd, Int.reduceSub, Int.reduceMul, Int.reduceNeg, q0, q4, q5, q6, q7, e4, e6, el]
  refine cd_dec (fun g => ?_) (fun g => ?_)
  · have g' := eq_true g
    have ex := boD_at (l := ks) (j := j) (by omega)
    have c1 : ((0 : Int) ≤ j) = True := eq_true (by omega)
    have c2 : ((j : Int) < ((ks.map boD).length : Nat)) = True := eq_true (by rw [List.length_map]; omega)
    have wj := wrap_i64 (x := (j : Int) + 1) (by omega) (by omega)
    obtain ⟨e, he, ee⟩ := En_at (l := l) (j := j) (by omega)
    have hce := hc e (List.mem_of_getElem? he)
    have hcb := cost_bd hce
    have hcost := refCost_ok (G := G) e hce
    have hob := e.obj
    have hlen := e.length
    have ht := e.take
    have hb := byL_bd hc ks j
    have hr := rdL_le ks j
    have hs := skL_le ks j
    have w1 := wrap_i64 (x := ((rdL ks j).length : Int) + 1) (by omega) (by omega)
    have w2 := wrap_i64 (x := byL l ks j + costF e) (by omega) (by omega)
    by_cases hk : ks.getD j false = true
    · have hk' := hk
      have ho := eq_true hw.1
      try simp only [go_sem, reduceIte, Nat.reduceEqDiff, Nat.reduceAdd, Nat.reduceSub, Nat.reduceMul, Nat.reduceLT, Nat.reduceLeDiff, Nat.reducePow, Int.reduceToNat, Int.reduceLT, Int.reduceLE, Int.reduceEq, Int.reduceNe, Int.reduceAdd, Int.reduceSub, Int.reduceMul, Int.reduceNeg, q0, q4, q5, q6, q7, e4, e6, el, ex, ee, c1, c2, hk, ho, wj, w1, w2, hob, hlen, ht, g']
      refine ⟨iD_cells _, by rw [List.length_map]; omega, fun t' ht' => ?_⟩
      try simp only [go_sem, reduceIte, Nat.reduceEqDiff, Nat.reduceAdd, Nat.reduceSub, Nat.reduceMul, Nat.reduceLT, Nat.reduceLeDiff, Nat.reducePow, Int.reduceToNat, Int.reduceLT, Int.reduceLE, Int.reduceEq, Int.reduceNe, Int.reduceAdd, Int.reduceSub, Int.reduceMul, Int.reduceNeg, q0, q4, q5, q6, q7, e4, e6, el, ex, ee, c1, c2, hk, ho, wj, w1, w2, hob, hlen, ht, g']
      refine cE_vn hcost ?_
      try simp only [go_sem, reduceIte, Nat.reduceEqDiff, Nat.reduceAdd, Nat.reduceSub, Nat.reduceMul, Nat.reduceLT, Nat.reduceLeDiff, Nat.reducePow, Int.reduceToNat, Int.reduceLT, Int.reduceLE, Int.reduceEq, Int.reduceNe, Int.reduceAdd, Int.reduceSub, Int.reduceMul, Int.reduceNeg, q0, q4, q5, q6, q7, e4, e6, el, ex, ee, c1, c2, hk, ho, wj, w1, w2, hob, hlen, ht, g']
      refine ⟨by simp [rdAdd], ⟨j + 1, .live t' 1, t2, by omega, hw.left ht', rfl, ?_, ?_⟩, by omega⟩
      · simp [Heap.set, n46, e4]
      · simp only [Heap.set, if_true, rdL_yes hk', skL_yes hk', byL_yes hk' he, List.length_append, List.length_cons, List.length_nil, List.map_append]
        rfl
    · have hk' : ks.getD j false = false := by simpa using hk
      have ho := eq_true hw.2.1
      try simp only [go_sem, reduceIte, Nat.reduceEqDiff, Nat.reduceAdd, Nat.reduceSub, Nat.reduceMul, Nat.reduceLT, Nat.reduceLeDiff, Nat.reducePow, Int.reduceToNat, Int.reduceLT, Int.reduceLE, Int.reduceEq, Int.reduceNe, Int.reduceAdd, Int.reduceSub, Int.reduceMul, Int.reduceNeg, q0, q4, q5, q6, q7, e4, e6, el, ex, ee, c1, c2, hk', ho, wj]
      refine ⟨iD_cells _, by rw [List.length_map]; omega, fun t' ht' => ⟨⟨j + 1, t1, .live t' 1, by omega, hw.right ht', rfl, ?_, ?_⟩, by omega⟩⟩
      · simp [Heap.set, n46, e4]
      · simp only [Heap.set, if_true, rdL_no hk', skL_no hk', byL_no hk', List.map_append]
        rfl
  · try simp only [go_sem, reduceIte, Nat.reduceEqDiff, Nat.reduceAdd, Nat.reduceSub, Nat.reduceMul, Nat.reduceLT, Nat.reduceLeDiff, Nat.reducePow, Int.reduceToNat, Int.reduceLT, Int.reduceLE, Int.reduceEq, Int.reduceNe, Int.reduceAdd, Int.reduceSub, Int.reduceMul, Int.reduceNeg, q0, q4, q5, q6, q7, e4, e6, el]
    obtain rfl : j = l.length := by omega
    exact finK_drop ⟨by simp only [plF, Pl.cells, D.er, List.map_cons, List.map_nil, er_iD]; rfl, rfl, rfl⟩
end Go.Proofs.YtgkfcgfobckaaaaS
