/-
  Predicates: values that are missing (fenlandlaw08.PredMissing).
-/
import Derived.Test.YtbfkhepfgibonaaQB
set_option linter.unusedVariables false
set_option linter.unusedSimpArgs false
namespace Go.Proofs.YtbfkhepfgibonaaS
open Go Go.Proofs.YtbfkhepfgibonaaV

variable {G : Heap}
attribute [local irreducible] VN VC VX VQ VY VW VTA

mutual
def plainF : Pr → Pr
  | .mk op id lo hi set text kids => if op = 4 then Pr.nul else .mk op id lo hi set text (plainL kids)
def plainL : List Pr → List Pr
  | [] => []
  | p :: l => plainF p :: plainL l
end
theorem plainL_eq : ∀ l : List Pr, plainL l = l.map plainF
  | [] => by simp only [plainL, List.map_nil]
  | p :: l => by simp only [plainL, plainL_eq l, List.map_cons]
theorem plainF_eq (p : Pr) : plainF p = if p.op = 4 then Pr.nul else .mk p.op p.id p.lo p.hi p.set p.text (p.kids.map plainF) := by
  cases p; simp only [plainF, plainL_eq]; rfl
/-- The second list knows at least what the first one knows. -/
def Knows : List Int → List Int → Prop
  | [], [] => True
  | a :: l, b :: m => (a = 2 ∨ a = b) ∧ Knows l m
  | _, _ => False
theorem Knows.map {α : Type} {f g : α → Int} : ∀ {l : List α}, (∀ x ∈ l, f x = 2 ∨ f x = g x) → Knows (l.map f) (l.map g)
  | [], _ => trivial
  | x :: l, h => ⟨h x (by simp), Knows.map fun y hy => h y (by simp [hy])⟩
theorem Knows.len : ∀ {l m : List Int}, Knows l m → l.length = m.length
  | [], [], _ => rfl
  | _ :: _, _ :: _, h => by have := h.2.len; simp [this]
  | [], _ :: _, h => h.elim
  | _ :: _, [], h => h.elim
theorem Knows.mem {a : Int} (ha : a ≠ 2) : ∀ {l m : List Int}, Knows l m → a ∈ l → a ∈ m
  | [], _, _, h => by simp at h
  | x :: l, y :: m, h, hm => by
    rcases List.mem_cons.1 hm with rfl | hm
    · rcases h.1 with e | e
      · exact absurd e ha
      · rw [e]; simp
    · exact List.mem_cons_of_mem _ (h.2.mem ha hm)
  | _ :: _, [], h, _ => h.elim
theorem Knows.full : ∀ {l m : List Int}, Knows l m → 2 ∉ l → l = m
  | [], [], _, _ => rfl
  | x :: l, y :: m, h, h2 => by
    rw [h.2.full fun hm => h2 (by simp [hm])]
    rcases h.1 with e | e
    · exact absurd (by simp [e]) h2
    · rw [e]
  | [], _ :: _, h, _ => h.elim
  | _ :: _, [], h, _ => h.elim
theorem evK_knows {op s s' : Int} {l m : List Int} (h : Knows l m) (hl : ∀ t ∈ l, t = 0 ∨ t = 1 ∨ t = 2) (hm : ∀ t ∈ m, t = 0 ∨ t = 1 ∨ t = 2) (hs : s = 2 ∨ s = s') : evK op s l = 2 ∨ evK op s l = evK op s' m := by
  by_cases k : op = 5
  · subst k
    rw [evK_and _ hl, evK_and _ hm, someF_and _ _ (.inl rfl) hl, someF_and _ _ (.inl rfl) hm]
    by_cases h0 : 0 ∈ l
    · rw [if_pos h0, if_pos (h.mem (by decide) h0)]; exact .inr rfl
    · rw [if_neg h0]
      by_cases h2 : 2 ∈ l
      · rw [if_pos h2]; exact .inl rfl
      · have := h.full h2; subst this; rw [if_neg h0]; exact .inr rfl
  · by_cases k : op = 6
    · subst k
      rw [evK_or _ hl, evK_or _ hm, someF_or _ _ (.inl rfl) hl, someF_or _ _ (.inl rfl) hm]
      by_cases h0 : 1 ∈ l
      · rw [if_pos h0, if_pos (h.mem (by decide) h0)]; exact .inr rfl
      · rw [if_neg h0]
        by_cases h2 : 2 ∈ l
        · rw [if_pos h2]; exact .inl rfl
        · have := h.full h2; subst this; rw [if_neg h0]; exact .inr rfl
    · by_cases k : op = 7
      · subst k
        by_cases h1 : (l.length : Int) = 1
        · match l, m, h with
          | [x], [y], h =>
            have hx := hl x (by simp)
            have hy := hm y (by simp)
            rw [evK_not _ _ hx, evK_not _ _ hy]
            rcases h.1 with e | e
            · subst e; exact .inl rfl
            · subst e; exact .inr rfl
        · exact .inl (evK_not' _ h1)
      · rename_i k5 k6
        simp only [evK, if_neg k, if_neg k5, if_neg k6]
        split
        · exact .inr rfl
        · split
          · exact hs
          · exact .inr rfl
theorem simple_null (p : Pr) (v : Vl) (h : v.null = true) (h4 : p.op ≠ 4) : simpleF p v = 2 := by
  unfold simpleF
  rw [if_neg h4, if_pos h]
theorem plain_knows {r r' : Rw} (hv : ∀ i, valV r i = valV r' i ∨ (valV r i).null = true) : ∀ (n : Nat) (p : Pr), SizeOf.sizeOf p ≤ n → evalP r (plainF p) = 2 ∨ evalP r (plainF p) = evalP r' (plainF p)
  | 0, p, h => by cases p; simp at h
  | n + 1, p, h => by
    rw [plainF_eq]
    by_cases k : p.op = 4
    · rw [if_pos k]; exact .inr rfl
    · rw [if_neg k, evalP_eq, evalP_eq]
      refine evK_knows ?_ (fun t ht => ?_) (fun t ht => ?_) ?_
      · refine Knows.map fun x hx => ?_
        obtain ⟨q, hq, rfl⟩ := List.mem_map.1 hx
        exact plain_knows hv n q (Nat.le_of_lt_succ (Nat.lt_of_lt_of_le (Pr.kid_lt hq) h))
      · obtain ⟨q, _, rfl⟩ := List.mem_map.1 ht; exact eval012 _ _
      · obtain ⟨q, _, rfl⟩ := List.mem_map.1 ht; exact eval012 _ _
      · rcases hv p.id with e | e
        · exact .inr (by show simpleF _ (valV r p.id) = simpleF _ (valV r' p.id); rw [e])
        · exact .inl (simple_null _ _ e k)
/-- The row in which some values have been replaced by null. -/
def lessF (bits : Nat) : Nat → Rw → Rw
  | _, [] => []
  | i, c :: r => (c.1, if bits / 2 ^ i % 2 = 1 then Vl.nul else c.2) :: lessF bits (i + 1) r
theorem less_val (bits : Nat) (id : Int) : ∀ (i : Nat) (r : Rw), valV (lessF bits i r) id = valV r id ∨ (valV (lessF bits i r) id).null = true
  | _, [] => .inl rfl
  | i, c :: r => by
    rw [lessF, valV, valV]
    dsimp only
    by_cases e : c.1 = id
    · rw [if_pos e, if_pos e]
      split
      · exact .inr rfl
      · exact .inl rfl
    · rw [if_neg e, if_neg e]; exact less_val bits id (i + 1) r
theorem nil_cells : Pr.nul.cells = [.int .i64 0, .int .i64 0, .int .i64 0, .int .i64 0, .sl .none [], .str ByteArray.empty, .sl .none []] := rfl
set_option maxRecDepth 100000 in
set_option maxHeartbeats 4000000 in
theorem plain_ok : ∀ (n : Nat) (p : Pr), SizeOf.sizeOf p ≤ n → p.Lim → VN P G 15 [.agg p.cells] (.agg (plainF p).cells)
  | 0, p, h, _ => by cases p; simp at h
  | n + 1, p, hn, hL => by
    have hk : p.kids.length ≤ 1048576 := by cases hL; assumption
    have hkL : ∀ k ∈ p.kids, k.Lim := by cases hL; assumption
    have ih := fun k hk => plain_ok n k (Nat.le_of_lt_succ (Nat.lt_of_lt_of_le (Pr.kid_lt (p := p) hk) hn)) (hkL k hk)
    have hF := plainF_eq p
    unfold VN
    refine VC.ofc (fun | 8 => [(0, []), (1, [7]), (2, []), (3, []), (4, []), (5, []), (6, []), (7, []), (8, []), (9, []), (10, []), (11, [])] | 99999999 => [(0, [0, 1, 2, 3, 4, 7, 15])] | _ => []) [.cell 2 25] mixed Try.func15 rfl rfl rfl rfl (by decide +kernel) (by simp) ?_
    have el : (p.kids.map Pr.d).length = p.kids.length := by simp
    simp only [go_sem, reduceIte, Nat.reduceEqDiff, Nat.reduceAdd, Nat.reduceSub, Nat.reduceMul, Nat.reduceLT, Nat.reduceLeDiff, Nat.reducePow, Int.reduceToNat, Int.reduceLT, Int.reduceLE, Int.reduceEq, Int.reduceNe, Int.reduceAdd, Int.reduceSub, Int.reduceMul, Int.reduceNeg]
    refine fun b1 => new_1 fun b2 q1 q2 => ?_
    try simp only [go_sem, reduceIte, Nat.reduceEqDiff, Nat.reduceAdd, Nat.reduceSub, Nat.reduceMul, Nat.reduceLT, Nat.reduceLeDiff, Nat.reducePow, Int.reduceToNat, Int.reduceLT, Int.reduceLE, Int.reduceEq, Int.reduceNe, Int.reduceAdd, Int.reduceSub, Int.reduceMul, Int.reduceNeg, q1, q2]
    refine cd_dec (fun g => ?_) (fun g => ?_)
    · rw [if_pos g] at hF
      try simp only [go_sem, reduceIte, Nat.reduceEqDiff, Nat.reduceAdd, Nat.reduceSub, Nat.reduceMul, Nat.reduceLT, Nat.reduceLeDiff, Nat.reducePow, Int.reduceToNat, Int.reduceLT, Int.reduceLE, Int.reduceEq, Int.reduceNe, Int.reduceAdd, Int.reduceSub, Int.reduceMul, Int.reduceNeg, q1, q2]
      rw [hF]
      exact finK_drop ⟨rfl, rfl, rfl⟩
    · rw [if_neg g] at hF
      rw [hF]
      try simp only [go_sem, reduceIte, Nat.reduceEqDiff, Nat.reduceAdd, Nat.reduceSub, Nat.reduceMul, Nat.reduceLT, Nat.reduceLeDiff, Nat.reducePow, Int.reduceToNat, Int.reduceLT, Int.reduceLE, Int.reduceEq, Int.reduceNe, Int.reduceAdd, Int.reduceSub, Int.reduceMul, Int.reduceNeg, q1, q2]
      have N := And.intro q1 q2
      generalize hβ : Heap.set _ b2 _ = β0
      have e1 : β0 b1 = some p.cells := by rw [← hβ]; simp [Heap.set, q1, q2]
      have e2 : β0 b2 = some [.int .i64 0, .int .i64 0, .int .i64 0, .int .i64 0, .sl .full [], .str ByteArray.empty, .sl .full []] := hit_set hβ
      clear hβ
      have N := And.intro N trivial
      refine new_any fun b3 hb3 => ?_
      have N := And.intro N (box_ne hb3 e1)
      have N := And.intro N (box_ne hb3 e2)
      try simp only [go_sem, reduceIte, Nat.reduceEqDiff, Nat.reduceAdd, Nat.reduceSub, Nat.reduceMul, Nat.reduceLT, Nat.reduceLeDiff, Nat.reducePow, Int.reduceToNat, Int.reduceLT, Int.reduceLE, Int.reduceEq, Int.reduceNe, Int.reduceAdd, Int.reduceSub, Int.reduceMul, Int.reduceNeg, N, e1, e2]
      obtain ⟨ps, hps⟩ : ∃ ps, p.kids.map plainF = ps := ⟨_, rfl⟩
      have hpl : ps.length = p.kids.length := by rw [← hps]; simp
      rw [hps]
      refine vwq_loop (fun v => ∃ (j : Nat) (t : Tk), j ≤ p.kids.length ∧ TW 7 t v.ω ∧ v.β b1 = some p.cells ∧ v.β b2 = some [.int .i64 0, .int .i64 0, .int .i64 0, .int .i64 0, .sl .full [], .str ByteArray.empty, .sl .full []] ∧ v.β b3 = some [.int .i64 p.op, .int .i64 p.id, .int .i64 p.lo, .int .i64 p.hi, .sl .none (p.set.map Vl.d), .str p.text, .sl t ((ps.take j).map Pr.d)] ∧ v.σ 1 = .pb b1 0 ∧ v.σ 2 = .pb b2 0 ∧ v.σ 3 = .pb b3 0 ∧ v.σ 4 = .int .i64 j) (fun v => p.kids.length - (ival (v.σ 4)).toNat) ⟨0, .full, by omega, TW.full 7, by simp only [Heap.set, N, if_false]; exact e1, by simp only [Heap.set, N, if_false]; exact e2, by simp only [Heap.set, if_true]; rfl, rfl, rfl, rfl, rfl⟩ ?_
      clear e1 e2
      rintro σ β ω ⟨j, t, hj, hw, e1, e2, e3, q1, q2, q3, q4⟩
      dsimp only at hw e1 e2 e3 q1 q2 q3 q4
      have hto := hw.ok
      have htg := hw.gone
      try simp only [go_sem, reduceIte, Nat.reduceEqDiff, Nat.reduceAdd, Nat.reduceSub, Nat.reduceMul, Nat.reduceLT, Nat.reduceLeDiff, Nat.reducePow, Int.reduceToNat, Int.reduceLT, Int.reduceLE, Int.reduceEq, Int.reduceNe, Int.reduceAdd, Int.reduceSub, Int.reduceMul, Int.reduceNeg, q1, q2, q3, q4, e1, e2, el]
      refine cd_dec (fun g => ?_) (fun g => ?_)
      · have g' := eq_true g
        have wj := wrap_i64 (x := (j : Int) + 1) (by omega) (by omega)
        obtain ⟨x, hx, ex⟩ := Pr_pat (ps := p.kids) (j := j) (by omega)
        have c1 : ((0 : Int) ≤ j) = True := eq_true (by omega)
        have hm := ih x (List.mem_of_getElem? hx)
        have hx2 : ps[j]? = some (plainF x) := by rw [← hps, List.getElem?_map, hx]; rfl
        try simp only [go_sem, reduceIte, Nat.reduceEqDiff, Nat.reduceAdd, Nat.reduceSub, Nat.reduceMul, Nat.reduceLT, Nat.reduceLeDiff, Nat.reducePow, Int.reduceToNat, Int.reduceLT, Int.reduceLE, Int.reduceEq, Int.reduceNe, Int.reduceAdd, Int.reduceSub, Int.reduceMul, Int.reduceNeg, q1, q2, q3, q4, e1, e2, e3, el, ex, c1, g']
        refine cE_vn hm ?_
        try simp only [go_sem, reduceIte, Nat.reduceEqDiff, Nat.reduceAdd, Nat.reduceSub, Nat.reduceMul, Nat.reduceLT, Nat.reduceLeDiff, Nat.reducePow, Int.reduceToNat, Int.reduceLT, Int.reduceLE, Int.reduceEq, Int.reduceNe, Int.reduceAdd, Int.reduceSub, Int.reduceMul, Int.reduceNeg, q1, q2, q3, q4, e1, e2, e3, el, ex, c1, g', hto, htg, wj]
        refine ⟨fun z hz => ?_, by simp only [List.length_map, List.length_take]; omega, fun t' _ => ⟨by simp [rdAdd, N], ⟨j + 1, .live t' 7, by omega, TW.live 7 t', ?_⟩, by omega⟩⟩
        · obtain ⟨y, _, rfl⟩ := List.mem_map.1 hz
          cases y; rfl
        simp only [Heap.set, N, if_true, if_false, e1, e2, true_and]
        exact ⟨by rw [List.take_add_one, hx2]; simp [Pr.d_eq], by simp⟩
      · try simp only [go_sem, reduceIte, Nat.reduceEqDiff, Nat.reduceAdd, Nat.reduceSub, Nat.reduceMul, Nat.reduceLT, Nat.reduceLeDiff, Nat.reducePow, Int.reduceToNat, Int.reduceLT, Int.reduceLE, Int.reduceEq, Int.reduceNe, Int.reduceAdd, Int.reduceSub, Int.reduceMul, Int.reduceNeg, q1, q2, q3, q4, e1, e2, e3]
        rw [List.take_of_length_le (by omega)] at e3 ⊢
        exact finK_drop ⟨by simp [D.er, D.er1]; rfl, rfl, rfl⟩
theorem lessF_len (bits : Nat) : ∀ (i : Nat) (r : Rw), (lessF bits i r).length = r.length
  | _, [] => rfl
  | i, c :: r => by rw [lessF, List.length_cons, List.length_cons, lessF_len bits (i + 1) r]
theorem lessF_at (bits : Nat) : ∀ (i : Nat) (r : Rw) (j : Nat) (c : Cl), r[j]? = some c → (lessF bits i r)[j]? = some (c.1, if bits / 2 ^ (i + j) % 2 = 1 then Vl.nul else c.2)
  | _, [], _, _, h => by simp at h
  | i, x :: r, 0, c, h => by
    simp at h; subst h; simp [lessF]
  | i, x :: r, j + 1, c, h => by
    rw [lessF, List.getElem?_cons_succ]
    rw [List.getElem?_cons_succ] at h
    rw [lessF_at bits (i + 1) r j c h, show i + 1 + j = i + (j + 1) by omega]
set_option maxRecDepth 100000 in
set_option maxHeartbeats 4000000 in
theorem missing_ok (p : Pr) (r : Rw) (bits : Nat) (hp : p.Lim) (hb : bits < 18446744073709551616) : VN P G 5 [.agg p.cells, .agg [.sl .none (r.map clD)], .int .u64 bits] (.bool true) := by
  have hs := law08_sanity_ok (G := G)
  have w1 := Small_ok (G := G) p 300
  have hpl := plain_ok (G := G) _ p (Nat.le_refl _) hp
  have hkn := plain_knows (r := lessF bits 0 r) (r' := r) (fun i => less_val bits i 0 r) _ p (Nat.le_refl _)
  have hlen := lessF_len bits 0 r
  have hat := lessF_at bits 0 r
  have hE2 := pEval_ok (G := G) r (plainF p)
  have hE1 := fun t => pEval_t (G := G) t (lessF bits 0 r) (plainF p)
  obtain ⟨q, hq⟩ : ∃ q, plainF p = q := ⟨_, rfl⟩
  rw [hq] at hpl hkn hE1 hE2
  clear hq
  obtain ⟨ls, hls⟩ : ∃ ls, lessF bits 0 r = ls := ⟨_, rfl⟩
  rw [hls] at hkn hlen hE1
  simp only [hls] at hat
  clear hls
  unfold VN
  refine VC.ofs (fun | 99999999 => [(0, [0, 1, 2, 3, 4, 6, 7, 8, 9, 10, 11, 12, 22, 31, 44])] | _ => []) [6] mixed Try.func5 rfl rfl rfl rfl (by decide +kernel) (by simp) ?_
  have er : (r.map clD).length = r.length := by simp
  simp only [go_sem, reduceIte, Nat.reduceEqDiff, Nat.reduceAdd, Nat.reduceSub, Nat.reduceMul, Nat.reduceLT, Nat.reduceLeDiff, Nat.reducePow, Int.reduceToNat, Int.reduceLT, Int.reduceLE, Int.reduceEq, Int.reduceNe, Int.reduceAdd, Int.reduceSub, Int.reduceMul, Int.reduceNeg]
  refine fun b3 => new_1 fun b4 q1 q2 => ?_
  have N := And.intro q1 q2
  generalize hβ : Heap.set _ b4 _ = β0
  have e3 : β0 b3 = some p.cells := by rw [← hβ]; simp [Heap.set, N]
  have e4 : β0 b4 = some [.sl .none (r.map clD)] := hit_set hβ
  clear hβ
  refine cK_vn hs ?_
  try simp only [go_sem, reduceIte, Nat.reduceEqDiff, Nat.reduceAdd, Nat.reduceSub, Nat.reduceMul, Nat.reduceLT, Nat.reduceLeDiff, Nat.reducePow, Int.reduceToNat, Int.reduceLT, Int.reduceLE, Int.reduceEq, Int.reduceNe, Int.reduceAdd, Int.reduceSub, Int.reduceMul, Int.reduceNeg, N, e3, e4, er]
  refine cK_vx w1 ?_
  rintro _ ⟨b1, rfl⟩
  cases b1
  · try simp only [go_sem, reduceIte, Nat.reduceEqDiff, Nat.reduceAdd, Nat.reduceSub, Nat.reduceMul, Nat.reduceLT, Nat.reduceLeDiff, Nat.reducePow, Int.reduceToNat, Int.reduceLT, Int.reduceLE, Int.reduceEq, Int.reduceNe, Int.reduceAdd, Int.reduceSub, Int.reduceMul, Int.reduceNeg, N, e3, e4, er]
    exact finK_drop ⟨rfl, rfl, rfl⟩
  try simp only [go_sem, reduceIte, Nat.reduceEqDiff, Nat.reduceAdd, Nat.reduceSub, Nat.reduceMul, Nat.reduceLT, Nat.reduceLeDiff, Nat.reducePow, Int.reduceToNat, Int.reduceLT, Int.reduceLE, Int.reduceEq, Int.reduceNe, Int.reduceAdd, Int.reduceSub, Int.reduceMul, Int.reduceNeg, N, e3, e4, er]
  refine cd_dec (fun _ => ?_) (fun hr60 => ?_)
  · try simp only [go_sem, reduceIte, Nat.reduceEqDiff, Nat.reduceAdd, Nat.reduceSub, Nat.reduceMul, Nat.reduceLT, Nat.reduceLeDiff, Nat.reducePow, Int.reduceToNat, Int.reduceLT, Int.reduceLE, Int.reduceEq, Int.reduceNe, Int.reduceAdd, Int.reduceSub, Int.reduceMul, Int.reduceNeg, N, e3, e4, er]
    exact finK_drop ⟨rfl, rfl, rfl⟩
  try simp only [go_sem, reduceIte, Nat.reduceEqDiff, Nat.reduceAdd, Nat.reduceSub, Nat.reduceMul, Nat.reduceLT, Nat.reduceLeDiff, Nat.reducePow, Int.reduceToNat, Int.reduceLT, Int.reduceLE, Int.reduceEq, Int.reduceNe, Int.reduceAdd, Int.reduceSub, Int.reduceMul, Int.reduceNeg, N, e3, e4, er]
  refine cK_vn hpl ?_
  try simp only [go_sem, reduceIte, Nat.reduceEqDiff, Nat.reduceAdd, Nat.reduceSub, Nat.reduceMul, Nat.reduceLT, Nat.reduceLeDiff, Nat.reducePow, Int.reduceToNat, Int.reduceLT, Int.reduceLE, Int.reduceEq, Int.reduceNe, Int.reduceAdd, Int.reduceSub, Int.reduceMul, Int.reduceNeg, N, e3, e4, er]
  have N := And.intro N trivial
  refine new_any fun b8 hb8 => ?_
  have N := And.intro N (box_ne hb8 e3)
  have N := And.intro N (box_ne hb8 e4)
  generalize hβ_ : Heap.set _ b8 _ = β_
  have e8 := hit_set hβ_
  have e3 := keep_new hβ_ hb8 e3
  have e4 := keep_new hβ_ hb8 e4
  clear hβ_ hb8
  refine new_any fun b9 hb9 => ?_
  have N := And.intro N (box_ne hb9 e3)
  have N := And.intro N (box_ne hb9 e4)
  have N := And.intro N (box_ne hb9 e8)
  generalize hβ_ : Heap.set _ b9 _ = β_
  have e9 := hit_set hβ_
  have e3 := keep_new hβ_ hb9 e3
  have e4 := keep_new hβ_ hb9 e4
  have e8 := keep_new hβ_ hb9 e8
  clear hβ_ hb9
  try simp only [go_sem, reduceIte, Nat.reduceEqDiff, Nat.reduceAdd, Nat.reduceSub, Nat.reduceMul, Nat.reduceLT, Nat.reduceLeDiff, Nat.reducePow, Int.reduceToNat, Int.reduceLT, Int.reduceLE, Int.reduceEq, Int.reduceNe, Int.reduceAdd, Int.reduceSub, Int.reduceMul, Int.reduceNeg, N, e3, e4, e8, e9]
  have hr60' : r.length ≤ 60 := by simp at hr60; omega
  refine vwq_loop (fun v => ∃ (i : Nat) (t : Tk), i ≤ r.length ∧ TW 4 t v.ω ∧ v.β b4 = some [.sl .none (r.map clD)] ∧ v.β b8 = some q.cells ∧ v.β b9 = some [.sl t ((ls.take i).map clD)] ∧ v.σ 2 = .int .u64 bits ∧ v.σ 4 = .pb b4 0 ∧ v.σ 7 = .bool true ∧ v.σ 8 = .pb b8 0 ∧ v.σ 9 = .pb b9 0 ∧ v.σ 10 = .int .i64 i) (fun v => r.length - (ival (v.σ 10)).toNat) ⟨0, .full, by omega, TW.full 4, by first | exact e4 | (simp only [Heap.set, N, if_false]; exact e4), by first | exact e8 | (simp only [Heap.set, N, if_true, if_false]), by first | exact e9 | (simp only [Heap.set, if_true]; try rfl), rfl, rfl, rfl, rfl, rfl, rfl⟩ ?_
  clear e3 e4 e8 e9
  rintro σ β ω ⟨i, t, hi, hw, e4, e8, e9, q2, q4, q7, q8, q9, q10⟩
  dsimp only at hw e4 e8 e9 q2 q4 q7 q8 q9 q10
  have hto := hw.ok
  have htg := hw.gone
  try simp only [go_sem, reduceIte, Nat.reduceEqDiff, Nat.reduceAdd, Nat.reduceSub, Nat.reduceMul, Nat.reduceLT, Nat.reduceLeDiff, Nat.reducePow, Int.reduceToNat, Int.reduceLT, Int.reduceLE, Int.reduceEq, Int.reduceNe, Int.reduceAdd, Int.reduceSub, Int.reduceMul, Int.reduceNeg, q2, q4, q7, q8, q9, q10, e4, er]
  refine cd_dec (fun g => ?_) (fun g => ?_)
  · have wi := wrap_i64 (x := (i : Int) + 1) (by omega) (by omega)
    obtain ⟨x, hx, ex⟩ := Cl_at (l := r) (j := i) (by omega)
    have ci : ((0 : Int) ≤ i) = True := eq_true (by omega)
    have gi := eq_true g
    have hlx := hat i x hx
    try simp only [go_sem, reduceIte, Nat.reduceEqDiff, Nat.reduceAdd, Nat.reduceSub, Nat.reduceMul, Nat.reduceLT, Nat.reduceLeDiff, Nat.reducePow, Int.reduceToNat, Int.reduceLT, Int.reduceLE, Int.reduceEq, Int.reduceNe, Int.reduceAdd, Int.reduceSub, Int.reduceMul, Int.reduceNeg, q2, q4, q7, q8, q9, q10, e4, er, ex, ci, gi]
    refine new_any fun b11 hb11 => ?_
    have N := And.intro N (box_ne hb11 e4)
    have N := And.intro N (box_ne hb11 e8)
    have N := And.intro N (box_ne hb11 e9)
    have hsh : shb .u64 (i : Int) = i := by simp only [shb, Int.toNat_natCast]; exact Nat.min_eq_left (by show i ≤ 64; omega)
    have him : (i : Int) % 18446744073709551616 = (i : Int) := by omega
    have hbit : (((bits : Int) / 2 ^ i).tmod 2 = 1) = (bits / 2 ^ i % 2 = 1) := by
      have h1 : ((bits : Int) / 2 ^ i) = ((bits / 2 ^ i : Nat) : Int) := by simp
      rw [h1, Int.tmod_eq_emod_of_nonneg (Int.natCast_nonneg _)]
      generalize bits / 2 ^ i = z
      exact propext ⟨fun h => by omega, fun h => by omega⟩
    try simp only [go_sem, reduceIte, Nat.reduceEqDiff, Nat.reduceAdd, Nat.reduceSub, Nat.reduceMul, Nat.reduceLT, Nat.reduceLeDiff, Nat.reducePow, Int.reduceToNat, Int.reduceLT, Int.reduceLE, Int.reduceEq, Int.reduceNe, Int.reduceAdd, Int.reduceSub, Int.reduceMul, Int.reduceNeg, N, q2, q4, q7, q8, q9, q10, him, hsh, hbit]
    refine ⟨by omega, ?_⟩
    refine cd_dec (fun k => ?_) (fun k => ?_)
    · rw [Nat.zero_add, if_pos k] at hlx
      try simp only [go_sem, reduceIte, Nat.reduceEqDiff, Nat.reduceAdd, Nat.reduceSub, Nat.reduceMul, Nat.reduceLT, Nat.reduceLeDiff, Nat.reducePow, Int.reduceToNat, Int.reduceLT, Int.reduceLE, Int.reduceEq, Int.reduceNe, Int.reduceAdd, Int.reduceSub, Int.reduceMul, Int.reduceNeg, N, q2, q4, q7, q8, q9, q10, e9, hto, htg, wi]
      refine ⟨fun z hz => ?_, by simp only [List.length_map, List.length_take]; omega, fun t' _ => ⟨⟨i + 1, .live t' 4, by omega, TW.live 4 t', ?_⟩, by omega⟩⟩
      · obtain ⟨y, _, rfl⟩ := List.mem_map.1 hz
        rfl
      simp only [Heap.set, N, if_true, if_false, e4, e8, true_and]
      exact ⟨by rw [List.take_add_one, hlx]; simp [clD, Vl.nul], by simp⟩
    · rw [Nat.zero_add, if_neg k] at hlx
      try simp only [go_sem, reduceIte, Nat.reduceEqDiff, Nat.reduceAdd, Nat.reduceSub, Nat.reduceMul, Nat.reduceLT, Nat.reduceLeDiff, Nat.reducePow, Int.reduceToNat, Int.reduceLT, Int.reduceLE, Int.reduceEq, Int.reduceNe, Int.reduceAdd, Int.reduceSub, Int.reduceMul, Int.reduceNeg, N, q2, q4, q7, q8, q9, q10, e9, hto, htg, wi]
      refine ⟨fun z hz => ?_, by simp only [List.length_map, List.length_take]; omega, fun t' _ => ⟨⟨i + 1, .live t' 4, by omega, TW.live 4 t', ?_⟩, by omega⟩⟩
      · obtain ⟨y, _, rfl⟩ := List.mem_map.1 hz
        rfl
      simp only [Heap.set, N, if_true, if_false, e4, e8, true_and]
      exact ⟨by rw [List.take_add_one, hlx]; simp [clD, Vl.nul], by simp⟩
  · rw [List.take_of_length_le (by omega)] at e9
    try simp only [go_sem, reduceIte, Nat.reduceEqDiff, Nat.reduceAdd, Nat.reduceSub, Nat.reduceMul, Nat.reduceLT, Nat.reduceLeDiff, Nat.reducePow, Int.reduceToNat, Int.reduceLT, Int.reduceLE, Int.reduceEq, Int.reduceNe, Int.reduceAdd, Int.reduceSub, Int.reduceMul, Int.reduceNeg, q2, q4, q7, q8, q9, q10, e4, e8, e9]
    refine cK_vn (hE1 _) ?_
    by_cases hh : evalP ls q = 2
    · have hh' := eq_true hh
      try simp only [go_sem, reduceIte, Nat.reduceEqDiff, Nat.reduceAdd, Nat.reduceSub, Nat.reduceMul, Nat.reduceLT, Nat.reduceLeDiff, Nat.reducePow, Int.reduceToNat, Int.reduceLT, Int.reduceLE, Int.reduceEq, Int.reduceNe, Int.reduceAdd, Int.reduceSub, Int.reduceMul, Int.reduceNeg, q2, q4, q7, q8, q9, q10, e4, e8, e9, hh, decide_true]
      exact finK_drop ⟨rfl, rfl, rfl⟩
    · have hh' := eq_false hh
      have hk : evalP ls q = evalP r q := hkn.resolve_left hh
      try simp only [go_sem, reduceIte, Nat.reduceEqDiff, Nat.reduceAdd, Nat.reduceSub, Nat.reduceMul, Nat.reduceLT, Nat.reduceLeDiff, Nat.reducePow, Int.reduceToNat, Int.reduceLT, Int.reduceLE, Int.reduceEq, Int.reduceNe, Int.reduceAdd, Int.reduceSub, Int.reduceMul, Int.reduceNeg, q2, q4, q7, q8, q9, q10, e4, e8, e9, hh', decide_false, not_false_eq_true, decide_true]
      refine cK_vn hE2 ?_
      try simp only [go_sem, reduceIte, Nat.reduceEqDiff, Nat.reduceAdd, Nat.reduceSub, Nat.reduceMul, Nat.reduceLT, Nat.reduceLeDiff, Nat.reducePow, Int.reduceToNat, Int.reduceLT, Int.reduceLE, Int.reduceEq, Int.reduceNe, Int.reduceAdd, Int.reduceSub, Int.reduceMul, Int.reduceNeg, q2, q4, q7, q8, q9, q10, e4, e8, e9, hk, decide_true]
      exact finK_drop ⟨rfl, rfl, rfl⟩
end Go.Proofs.YtbfkhepfgibonaaS
