/-
  Predicates: fenlandref08.Valid (bare, shape, Formed, fits).
-/
import Derived.Test.YtbfkhepfgibonaaGreatR1
import Derived.Test.YtbfkhepfgibonaaGreatQ5
import Derived.Test.YtbfkhepfgibonaaGreatQ9
import Derived.Test.YtbfkhepfgibonaaGreatJ3
set_option linter.unusedVariables false
set_option linter.unusedSimpArgs false
namespace Go.Proofs.YtbfkhepfgibonaaGreatS
open Go Go.Proofs.YtbfkhepfgibonaaGreatV

variable {G : Heap}
attribute [local irreducible] VN VC VX VQ VY VW VTA VT0

structure BareP (p : Pr) : Prop where
  id : p.id = (usedP p).id
  lo : p.lo = (usedP p).lo
  hi : p.hi = (usedP p).hi
  text : p.text = (usedP p).text
  set : p.set.length = (usedP p).set.length
  kids : p.kids.length = (usedP p).kids.length
theorem bareP_iff (p : Pr) : BareP p ↔ (p.id = (usedP p).id ∧ p.lo = (usedP p).lo ∧ p.hi = (usedP p).hi ∧ p.text = (usedP p).text ∧ p.set.length = (usedP p).set.length ∧ p.kids.length = (usedP p).kids.length) :=
  ⟨fun ⟨a, b, c, d, e, f⟩ => ⟨a, b, c, d, e, f⟩, fun ⟨a, b, c, d, e, f⟩ => ⟨a, b, c, d, e, f⟩⟩
instance (p : Pr) : Decidable (BareP p) := decidable_of_iff _ (bareP_iff p).symm
theorem form_bare (p : Pr) : FormP p ↔ ((0 ≤ p.op ∧ p.op ≤ 7) ∧ BareP p ∧ p.kids.length ≤ 16 ∧ p.set.length ≤ 16 ∧ p.text.size ≤ 200 ∧ (p.op = 7 → p.kids.length = 1) ∧ ∀ v ∈ p.set, v.s.size ≤ 200) := by
  rw [formP_iff, bareP_iff]
  constructor
  · rintro ⟨a, b, c, d, e, f, g, h, i, j, k, l⟩; exact ⟨a, ⟨b, c, d, e, f, g⟩, i, h, k, j, l⟩
  · rintro ⟨a, ⟨b, c, d, e, f, g⟩, i, h, k, j, l⟩; exact ⟨a, b, c, d, e, f, g, h, i, j, k, l⟩
theorem bareP_iff2 (p : Pr) (ho : 0 ≤ p.op ∧ p.op ≤ 7) : BareP p ↔ ((p.id = 0 ∨ (1 ≤ p.op ∧ p.op ≤ 4)) ∧ ((p.lo = 0 ∧ p.hi = 0) ∨ p.op = 1) ∧ (p.set = [] ∨ p.op = 2) ∧ (p.text = ByteArray.empty ∨ p.op = 3) ∧ (p.kids = [] ∨ 5 ≤ p.op)) := by
  rw [bareP_iff]
  obtain ⟨op, id, lo, hi, set, text, kids⟩ := p
  show (id = (if isAt op then id else 0) ∧ lo = (if op = 1 then lo else 0) ∧ hi = (if op = 1 then hi else 0) ∧ text = (if op = 3 then text else ByteArray.empty) ∧ set.length = (if op = 2 then set else []).length ∧ kids.length = (if 5 ≤ op ∧ op ≤ 7 then kids else []).length) ↔ ((id = 0 ∨ (1 ≤ op ∧ op ≤ 4)) ∧ ((lo = 0 ∧ hi = 0) ∨ op = 1) ∧ (set = [] ∨ op = 2) ∧ (text = ByteArray.empty ∨ op = 3) ∧ (kids = [] ∨ 5 ≤ op))
  simp only [Pr.op] at ho
  have h8 : op = 0 ∨ op = 1 ∨ op = 2 ∨ op = 3 ∨ op = 4 ∨ op = 5 ∨ op = 6 ∨ op = 7 := by omega
  rcases h8 with rfl | rfl | rfl | rfl | rfl | rfl | rfl | rfl <;> simp [isAt] <;> (try (intro _)) <;> constructor <;> intro h <;> simp_all
set_option maxHeartbeats 4000000 in
theorem bare_ok (p : Pr) (ho : 0 ≤ p.op ∧ p.op ≤ 7) : VN P G 120 [.agg p.cells] (.bool (decide (BareP p))) := by
  have hb := bareP_iff2 p ho
  rw [← decide_eq_true_iff (p := BareP p)] at hb
  generalize decide (BareP p) = B at hb ⊢
  obtain ⟨op, id, lo, hi, set, text, kids⟩ := p
  simp only [Pr.op, Pr.id, Pr.lo, Pr.hi, Pr.set, Pr.text, Pr.kids, Pr.cells] at hb ho ⊢
  obtain ⟨o1, o2⟩ := ho
  have el : (kids.map Pr.d).length = kids.length := by simp
  have es : (set.map Vl.d).length = set.length := by simp
  have lk : ((kids.length : Nat) : Int) = 0 ↔ kids = [] := by simp
  have ls : ((0 : Int) < (set.length : Nat)) ↔ set ≠ [] := by rw [← List.length_pos_iff]; omega
  unfold VN
  refine VC.ofs (fun | 99999999 => [(0, [0, 1, 2, 3, 33, 52])] | _ => []) [2] mixed Tryz.func120 rfl rfl rfl rfl (by decide +kernel) (by simp) ?_
  have h8 : op = 0 ∨ op = 1 ∨ op = 2 ∨ op = 3 ∨ op = 4 ∨ op = 5 ∨ op = 6 ∨ op = 7 := by omega
  rcases h8 with rfl | rfl | rfl | rfl | rfl | rfl | rfl | rfl
  all_goals
    simp only [go_sem, reduceIte, Nat.reduceEqDiff, Nat.reduceAdd, Nat.reduceSub, Nat.reduceMul, Nat.reduceLT, Nat.reduceLeDiff, Nat.reducePow, Int.reduceToNat, Int.reduceLT, Int.reduceLE, Int.reduceEq, Int.reduceNe, Int.reduceAdd, Int.reduceSub, Int.reduceMul, Int.reduceNeg]
    intro b1
    repeat' (first | simp only [go_sem, reduceIte, Nat.reduceEqDiff, Nat.reduceAdd, Nat.reduceSub, Nat.reduceMul, Nat.reduceLT, Nat.reduceLeDiff, Nat.reducePow, Int.reduceToNat, Int.reduceLT, Int.reduceLE, Int.reduceEq, Int.reduceNe, Int.reduceAdd, Int.reduceSub, Int.reduceMul, Int.reduceNeg, el, es] | refine cd_dec (fun _ => ?_) (fun _ => ?_) | refine And.intro (fun h => ⟨h, fun h2 => ⟨h, h2⟩⟩) ?_ | fail)
  all_goals
    refine finK_drop ⟨congrArg (fun b => Out.ret (D.bool b)) ?_, rfl, rfl⟩
    rw [Bool.eq_iff_iff, hb]
    clear hb
    simp only [bemp, ls] at *
    simp_all
    try (intros; simp_all)
/-- Well-formed and at most so deep. -/
def wF (m : Nat) (p : Pr) : Bool := decide (depN m p ≤ m) && (subs p).all fun q => decide (FormP q)
theorem wF_wellF (p : Pr) : wF 8 p = wellF p := rfl
theorem foldl_max_iff {l : List Nat} {a n : Nat} : l.foldl max a ≤ n ↔ a ≤ n ∧ ∀ x ∈ l, x ≤ n := by
  induction l generalizing a with
  | nil => simp
  | cons x l ih =>
    rw [List.foldl_cons, ih]
    simp only [List.mem_cons, forall_eq_or_imp]
    constructor
    · rintro ⟨h1, h2⟩; exact ⟨by omega, by omega, h2⟩
    · rintro ⟨h1, h2, h3⟩; exact ⟨by omega, h3⟩
theorem wF_step (m : Nat) (p : Pr) : wF (m + 1) p = (decide (FormP p) && p.kids.all (wF m)) := by
  have hd : depN (m + 1) p ≤ m + 1 ↔ ∀ k ∈ p.kids, depN m k ≤ m := by
    rw [depN, Nat.add_le_add_iff_right, foldl_max_iff]
    simp
  rw [Bool.eq_iff_iff]
  unfold wF
  simp only [Bool.and_eq_true, decide_eq_true_iff, List.all_eq_true, hd, subs_eq p, List.mem_cons, forall_eq_or_imp, subsL_flat, List.mem_flatMap, forall_exists_index, and_imp]
  constructor
  · rintro ⟨h1, h2, h3⟩; exact ⟨h2, fun k hk => ⟨h1 k hk, fun q hq => h3 q k hk hq⟩⟩
  · rintro ⟨h1, h2⟩; exact ⟨fun k hk => (h2 k hk).1, h1, fun q k hk hq => (h2 k hk).2 q hq⟩
theorem wF_0 (p : Pr) : wF 0 p = false := by simp [wF, depN]
set_option maxRecDepth 100000 in
set_option maxHeartbeats 4000000 in
theorem shape_step (m : Nat) (hm : m ≤ 7) (p : Pr) (ih : 0 < m → ∀ k ∈ p.kids, VN P G 77 [.agg k.cells, .int .i64 (8 - (m : Int))] (.bool (wF m k))) : VN P G 77 [.agg p.cells, .int .i64 (7 - (m : Int))] (.bool (wF (m + 1) p)) := by
  have hw := wF_step m p
  have hform := form_bare p
  unfold VN
  refine VC.small2 fun hsm => ?_
  have z1 := hsm (.agg p.cells) (List.mem_cons_self ..) (.sl .none (p.set.map Vl.d)) (by simp [D.cells, Pr.cells])
  have z2 := hsm (.agg p.cells) (List.mem_cons_self ..) (.sl .none (p.kids.map Pr.d)) (by simp [D.cells, Pr.cells])
  simp only [Small, mostLen, List.length_map] at z1 z2
  clear hsm
  have el : (p.kids.map Pr.d).length = p.kids.length := by simp
  have es : (p.set.map Vl.d).length = p.set.length := by simp
  have wm : IntKind.i64.wrap (7 - (m : Int) + 1) = 8 - (m : Int) := by rw [wrap_i64 (by omega) (by omega)]; omega
  refine VC.ofs (fun | 99999999 => [(0, [0, 1, 2, 4, 5, 6, 37, 56, 61, 71, 76, 87])] | _ => []) [4] mixed Tryz.func77 rfl rfl rfl rfl (by decide +kernel) (by simp) ?_
  simp only [go_sem, reduceIte, Nat.reduceEqDiff, Nat.reduceAdd, Nat.reduceSub, Nat.reduceMul, Nat.reduceLT, Nat.reduceLeDiff, Nat.reducePow, Int.reduceToNat, Int.reduceLT, Int.reduceLE, Int.reduceEq, Int.reduceNe, Int.reduceAdd, Int.reduceSub, Int.reduceMul, Int.reduceNeg]
  intro b2
  generalize hβ : Heap.set _ b2 _ = β0
  have e2 : β0 b2 = some p.cells := hit_set hβ
  clear hβ
  have hno : ¬ FormP p → wF (m + 1) p = false := fun h => by rw [hw, decide_eq_false h, Bool.false_and]
  by_cases ho : 0 ≤ p.op ∧ p.op ≤ 7
  · have k1 : (p.op < 0 ∨ 7 < p.op) = False := eq_false (by omega)
    try simp only [go_sem, reduceIte, Nat.reduceEqDiff, Nat.reduceAdd, Nat.reduceSub, Nat.reduceMul, Nat.reduceLT, Nat.reduceLeDiff, Nat.reducePow, Int.reduceToNat, Int.reduceLT, Int.reduceLE, Int.reduceEq, Int.reduceNe, Int.reduceAdd, Int.reduceSub, Int.reduceMul, Int.reduceNeg, e2, el, es, k1, decide_false]
    refine cK_vn (bare_ok p ho) ?_
    by_cases hb : BareP p
    · rw [decide_eq_true hb]
      try simp only [go_sem, reduceIte, Nat.reduceEqDiff, Nat.reduceAdd, Nat.reduceSub, Nat.reduceMul, Nat.reduceLT, Nat.reduceLeDiff, Nat.reducePow, Int.reduceToNat, Int.reduceLT, Int.reduceLE, Int.reduceEq, Int.reduceNe, Int.reduceAdd, Int.reduceSub, Int.reduceMul, Int.reduceNeg, e2, el, es, k1, decide_false]
      refine cd_dec (fun g1 => ?_) (fun g1 => ?_)
      · try simp only [go_sem, reduceIte, Nat.reduceEqDiff, Nat.reduceAdd, Nat.reduceSub, Nat.reduceMul, Nat.reduceLT, Nat.reduceLeDiff, Nat.reducePow, Int.reduceToNat, Int.reduceLT, Int.reduceLE, Int.reduceEq, Int.reduceNe, Int.reduceAdd, Int.reduceSub, Int.reduceMul, Int.reduceNeg, e2, el, es]
        exact finK_drop ⟨by rw [hno (fun h => by have := h.k16; have := h.s16; have := h.t200; omega)]; rfl, rfl, rfl⟩
      try simp only [go_sem, reduceIte, Nat.reduceEqDiff, Nat.reduceAdd, Nat.reduceSub, Nat.reduceMul, Nat.reduceLT, Nat.reduceLeDiff, Nat.reducePow, Int.reduceToNat, Int.reduceLT, Int.reduceLE, Int.reduceEq, Int.reduceNe, Int.reduceAdd, Int.reduceSub, Int.reduceMul, Int.reduceNeg, e2, el, es]
      refine ⟨fun h => ⟨h, fun h2 => ⟨h, h2⟩⟩, cd_dec (fun g2 => ?_) (fun g2 => ?_)⟩
      · try simp only [go_sem, reduceIte, Nat.reduceEqDiff, Nat.reduceAdd, Nat.reduceSub, Nat.reduceMul, Nat.reduceLT, Nat.reduceLeDiff, Nat.reducePow, Int.reduceToNat, Int.reduceLT, Int.reduceLE, Int.reduceEq, Int.reduceNe, Int.reduceAdd, Int.reduceSub, Int.reduceMul, Int.reduceNeg, e2, el, es]
        refine finK_drop ⟨?_, rfl, rfl⟩
        rcases g2 with ⟨g2, g3⟩ | ⟨g2, g3⟩
        · rw [hno (fun h => by have := h.one g2; omega)]; rfl
        · have m0 : m = 0 := by omega
          subst m0
          obtain ⟨k, l, hk⟩ := List.exists_cons_of_ne_nil (List.ne_nil_of_length_pos (l := p.kids) (by omega))
          rw [hw, hk, List.all_cons, wF_0, Bool.false_and, Bool.and_false]; rfl
      have h71 : p.op = 7 → p.kids.length = 1 := fun h => by omega
      have hm0 : 0 < p.kids.length → 0 < m := fun h => by omega
      try simp only [go_sem, reduceIte, Nat.reduceEqDiff, Nat.reduceAdd, Nat.reduceSub, Nat.reduceMul, Nat.reduceLT, Nat.reduceLeDiff, Nat.reducePow, Int.reduceToNat, Int.reduceLT, Int.reduceLE, Int.reduceEq, Int.reduceNe, Int.reduceAdd, Int.reduceSub, Int.reduceMul, Int.reduceNeg, e2, el, es]
      refine vwq_loop (fun v => ∃ (j : Nat), j ≤ p.set.length ∧ (∀ i v, p.set[i]? = some v → i < j → v.s.size ≤ 200) ∧ v.σ 1 = .int .i64 (7 - (m : Int)) ∧ v.σ 2 = .pb b2 0 ∧ v.σ 5 = .int .i64 j ∧ v.β = β0 ∧ v.ω = []) (fun v => p.set.length - (ival (v.σ 5)).toNat) ⟨0, by omega, fun i v _ h => by omega, rfl, rfl, rfl, rfl, rfl⟩ ?_
      rintro σ β ω ⟨j, hj, hv, q1, q2, q5, rfl, rfl⟩
      dsimp only at q1 q2 q5 e2
      try simp only [go_sem, reduceIte, Nat.reduceEqDiff, Nat.reduceAdd, Nat.reduceSub, Nat.reduceMul, Nat.reduceLT, Nat.reduceLeDiff, Nat.reducePow, Int.reduceToNat, Int.reduceLT, Int.reduceLE, Int.reduceEq, Int.reduceNe, Int.reduceAdd, Int.reduceSub, Int.reduceMul, Int.reduceNeg, q1, q2, q5, e2, es]
      refine cd_dec (fun g => ?_) (fun g => ?_)
      · have g' := eq_true g
        obtain ⟨v, hx, ex⟩ := Vl_at (l := p.set) (j := j) (by omega)
        have c1 : ((0 : Int) ≤ j) = True := eq_true (by omega)
        have wj := wrap_i64 (x := (j : Int) + 1) (by omega) (by omega)
        try simp only [go_sem, reduceIte, Nat.reduceEqDiff, Nat.reduceAdd, Nat.reduceSub, Nat.reduceMul, Nat.reduceLT, Nat.reduceLeDiff, Nat.reducePow, Int.reduceToNat, Int.reduceLT, Int.reduceLE, Int.reduceEq, Int.reduceNe, Int.reduceAdd, Int.reduceSub, Int.reduceMul, Int.reduceNeg, q1, q2, q5, e2, es, g', c1, ex]
        refine cd_dec (fun g3 => ?_) (fun g3 => ?_)
        · try simp only [go_sem, reduceIte, Nat.reduceEqDiff, Nat.reduceAdd, Nat.reduceSub, Nat.reduceMul, Nat.reduceLT, Nat.reduceLeDiff, Nat.reducePow, Int.reduceToNat, Int.reduceLT, Int.reduceLE, Int.reduceEq, Int.reduceNe, Int.reduceAdd, Int.reduceSub, Int.reduceMul, Int.reduceNeg, q1, q2, q5, e2, es]
          exact finK_drop ⟨by rw [hno (fun h => by have := h.v200 v (List.mem_of_getElem? hx); omega)]; rfl, rfl, rfl⟩
        · try simp only [go_sem, reduceIte, Nat.reduceEqDiff, Nat.reduceAdd, Nat.reduceSub, Nat.reduceMul, Nat.reduceLT, Nat.reduceLeDiff, Nat.reducePow, Int.reduceToNat, Int.reduceLT, Int.reduceLE, Int.reduceEq, Int.reduceNe, Int.reduceAdd, Int.reduceSub, Int.reduceMul, Int.reduceNeg, q1, q2, q5, e2, es, wj]
          refine ⟨⟨j + 1, by omega, fun i w hi hlt => ?_, rfl⟩, by omega⟩
          by_cases hij : i = j
          · subst hij
            obtain rfl := Option.some.inj (hx.symm.trans hi)
            omega
          · exact hv i w hi (by omega)
      · have hall : ∀ v ∈ p.set, v.s.size ≤ 200 := fun v hm => by
          obtain ⟨i, hi⟩ := List.getElem?_of_mem hm
          exact hv i v hi (by have := (List.getElem?_eq_some_iff.1 hi).1; omega)
        have hF : FormP p := hform.2 ⟨ho, hb, by omega, by omega, by omega, h71, hall⟩
        have hw2 : wF (m + 1) p = p.kids.all (wF m) := by rw [hw, decide_eq_true hF, Bool.true_and]
        clear hv
        try simp only [go_sem, reduceIte, Nat.reduceEqDiff, Nat.reduceAdd, Nat.reduceSub, Nat.reduceMul, Nat.reduceLT, Nat.reduceLeDiff, Nat.reducePow, Int.reduceToNat, Int.reduceLT, Int.reduceLE, Int.reduceEq, Int.reduceNe, Int.reduceAdd, Int.reduceSub, Int.reduceMul, Int.reduceNeg, q1, q2, q5, e2, es]
        refine vwq_loop (fun v => ∃ (j : Nat), j ≤ p.kids.length ∧ (∀ k ∈ p.kids.take j, wF m k = true) ∧ v.σ 1 = .int .i64 (7 - (m : Int)) ∧ v.σ 2 = .pb b2 0 ∧ v.σ 6 = .int .i64 j ∧ v.β = β ∧ v.ω = []) (fun v => p.kids.length - (ival (v.σ 6)).toNat) ⟨0, by omega, by simp, rfl, rfl, rfl, rfl, rfl⟩ ?_
        clear q1 q2 q5 g hj
        rintro σ β2 ω ⟨j, hj, hv, q1, q2, q6, rfl, rfl⟩
        dsimp only at q1 q2 q6 e2
        try simp only [go_sem, reduceIte, Nat.reduceEqDiff, Nat.reduceAdd, Nat.reduceSub, Nat.reduceMul, Nat.reduceLT, Nat.reduceLeDiff, Nat.reducePow, Int.reduceToNat, Int.reduceLT, Int.reduceLE, Int.reduceEq, Int.reduceNe, Int.reduceAdd, Int.reduceSub, Int.reduceMul, Int.reduceNeg, q1, q2, q6, e2, el]
        refine cd_dec (fun g => ?_) (fun g => ?_)
        · have g' := eq_true g
          obtain ⟨k, hx, ex⟩ := Pr_at (l := p.kids) (j := j) (by omega)
          have c1 : ((0 : Int) ≤ j) = True := eq_true (by omega)
          have wj := wrap_i64 (x := (j : Int) + 1) (by omega) (by omega)
          have hk := ih (hm0 (by omega)) k (List.mem_of_getElem? hx)
          simp only [Pr.cells] at hk
          try simp only [go_sem, reduceIte, Nat.reduceEqDiff, Nat.reduceAdd, Nat.reduceSub, Nat.reduceMul, Nat.reduceLT, Nat.reduceLeDiff, Nat.reducePow, Int.reduceToNat, Int.reduceLT, Int.reduceLE, Int.reduceEq, Int.reduceNe, Int.reduceAdd, Int.reduceSub, Int.reduceMul, Int.reduceNeg, q1, q2, q6, e2, el, g', c1, ex, wm]
          refine cK_vn hk ?_
          cases hwk : wF m k
          · try simp only [go_sem, reduceIte, Nat.reduceEqDiff, Nat.reduceAdd, Nat.reduceSub, Nat.reduceMul, Nat.reduceLT, Nat.reduceLeDiff, Nat.reducePow, Int.reduceToNat, Int.reduceLT, Int.reduceLE, Int.reduceEq, Int.reduceNe, Int.reduceAdd, Int.reduceSub, Int.reduceMul, Int.reduceNeg, q1, q2, q6, e2, el]
            refine finK_drop ⟨?_, rfl, rfl⟩
            rw [hw2, show p.kids.all (wF m) = false from by
              rw [List.all_eq_false]; exact ⟨k, List.mem_of_getElem? hx, by simp [hwk]⟩]; rfl
          · try simp only [go_sem, reduceIte, Nat.reduceEqDiff, Nat.reduceAdd, Nat.reduceSub, Nat.reduceMul, Nat.reduceLT, Nat.reduceLeDiff, Nat.reducePow, Int.reduceToNat, Int.reduceLT, Int.reduceLE, Int.reduceEq, Int.reduceNe, Int.reduceAdd, Int.reduceSub, Int.reduceMul, Int.reduceNeg, q1, q2, q6, e2, el, wj]
            refine ⟨⟨j + 1, by omega, fun x hm => ?_, rfl⟩, by omega⟩
            rw [List.take_add_one, hx] at hm
            rcases List.mem_append.1 hm with hm | hm
            · exact hv x hm
            · simp at hm; subst hm; exact hwk
        · try simp only [go_sem, reduceIte, Nat.reduceEqDiff, Nat.reduceAdd, Nat.reduceSub, Nat.reduceMul, Nat.reduceLT, Nat.reduceLeDiff, Nat.reducePow, Int.reduceToNat, Int.reduceLT, Int.reduceLE, Int.reduceEq, Int.reduceNe, Int.reduceAdd, Int.reduceSub, Int.reduceMul, Int.reduceNeg, q1, q2, q6, e2, el]
          rw [List.take_of_length_le (by omega)] at hv
          refine finK_drop ⟨?_, rfl, rfl⟩
          rw [hw2, List.all_eq_true.2 hv]; rfl
    · rw [decide_eq_false hb]
      try simp only [go_sem, reduceIte, Nat.reduceEqDiff, Nat.reduceAdd, Nat.reduceSub, Nat.reduceMul, Nat.reduceLT, Nat.reduceLeDiff, Nat.reducePow, Int.reduceToNat, Int.reduceLT, Int.reduceLE, Int.reduceEq, Int.reduceNe, Int.reduceAdd, Int.reduceSub, Int.reduceMul, Int.reduceNeg, e2, el, es, k1, decide_false]
      exact finK_drop ⟨by rw [hno (fun h => hb (hform.1 h).2.1)]; rfl, rfl, rfl⟩
  · have k1 : (p.op < 0 ∨ 7 < p.op) = True := eq_true (by omega)
    try simp only [go_sem, reduceIte, Nat.reduceEqDiff, Nat.reduceAdd, Nat.reduceSub, Nat.reduceMul, Nat.reduceLT, Nat.reduceLeDiff, Nat.reducePow, Int.reduceToNat, Int.reduceLT, Int.reduceLE, Int.reduceEq, Int.reduceNe, Int.reduceAdd, Int.reduceSub, Int.reduceMul, Int.reduceNeg, e2, el, es, k1, decide_true]
    exact finK_drop ⟨by rw [hno (fun h => ho h.op)]; rfl, rfl, rfl⟩
theorem shape_ok : ∀ (m : Nat), m ≤ 7 → ∀ (p : Pr), VN P G 77 [.agg p.cells, .int .i64 (7 - (m : Int))] (.bool (wF (m + 1) p))
  | 0, hm, p => shape_step 0 hm p fun h => absurd h (by omega)
  | m + 1, hm, p => shape_step (m + 1) hm p fun _ k _ => by
      have h := shape_ok m (by omega) k
      rw [show (8 : Int) - ((m + 1 : Nat) : Int) = 7 - (m : Int) by omega]; exact h
theorem Formed_ok (p : Pr) : VN P G 49 [.agg p.cells] (.bool (wellF p)) := by
  have h : VN P G 77 [.agg p.cells, .int .i64 0] (.bool (wellF p)) := shape_ok 7 (by omega) p
  unfold VN
  refine VC.ofs (fun | 99999999 => [(0, [0, 1, 2])] | _ => []) [2] mixed Tryz.func49 rfl rfl rfl rfl (by decide +kernel) (by simp) ?_
  simp only [go_sem, reduceIte, Nat.reduceEqDiff, Nat.reduceAdd, Nat.reduceSub, Nat.reduceMul, Nat.reduceLT, Nat.reduceLeDiff, Nat.reducePow, Int.reduceToNat, Int.reduceLT, Int.reduceLE, Int.reduceEq, Int.reduceNe, Int.reduceAdd, Int.reduceSub, Int.reduceMul, Int.reduceNeg]
  intro b
  refine cK_vn h ?_
  try simp only [go_sem, reduceIte, Nat.reduceEqDiff, Nat.reduceAdd, Nat.reduceSub, Nat.reduceMul, Nat.reduceLT, Nat.reduceLeDiff, Nat.reducePow, Int.reduceToNat, Int.reduceLT, Int.reduceLE, Int.reduceEq, Int.reduceNe, Int.reduceAdd, Int.reduceSub, Int.reduceMul, Int.reduceNeg, ]
  exact finK_drop ⟨rfl, rfl, rfl⟩
end Go.Proofs.YtbfkhepfgibonaaGreatS
