/-
  Predicates: fenlandref08.elements; what the reference's reader reads is what the program's reads, but for what stands beside an error.
-/
import Derived.Test.YtpblgfgcoamgmaaQL
import Derived.Test.YtpblgfgcoamgmaaQE
set_option linter.unusedVariables false
set_option linter.unusedSimpArgs false
namespace Go.Proofs.YtpblgfgcoamgmaaS
open Go Go.Proofs.YtpblgfgcoamgmaaV

variable {G : Heap}
attribute [local irreducible] VN VC VX VQ VY VW VTA VT0

theorem bytR_ge {b : List Nat} {m : Nat} {s : Sc} (h : 0 ≤ s.1) : 0 ≤ (bytR b m s).2.1 := by
  unfold bytR
  split
  · exact h
  split
  · exact Int.le_refl _
  split
  · exact Int.le_refl _
  · show 0 ≤ s.1 + 1; omega
theorem bytR_le {b : List Nat} {m : Nat} {s : Sc} : (bytR b m s).1 ≤ m := by
  unfold bytR
  split
  · exact Nat.zero_le _
  split
  · exact Nat.zero_le _
  split
  · exact Nat.zero_le _
  · dsimp only; omega
theorem bytR_err {b : List Nat} {m : Nat} {s : Sc} (h : (bytR b m s).2.2 ≠ 0) : (bytR b m s).1 = 0 := by
  unfold bytR at h ⊢
  split
  · rfl
  · rename_i h1
    rw [if_neg h1] at h
    split
    · rfl
    · rename_i h2
      rw [if_neg h2] at h
      split
      · rfl
      · rename_i h3
        rw [if_neg h3] at h
        exact absurd rfl h
def elR (b : List Nat) : Nat → List Vl → Sc → List Vl × Sc
  | 0, l, s => (l, s)
  | n + 1, l, s => if s.2 = 0 then elR b n (l ++ [⟨decide ((bytR b 1 s).1 = 1), (nxS b (bytR b 1 s).2).1, (txtF b (nxS b (bytR b 1 s).2).2).1⟩]) (txtF b (nxS b (bytR b 1 s).2).2).2 else (l, s)
theorem elR_err {b : List Nat} {n : Nat} {l : List Vl} {s : Sc} (h : s.2 ≠ 0) : elR b n l s = (l, s) := by
  cases n with
  | zero => rfl
  | succ n => rw [elR, if_neg h]
theorem elR_ge {b : List Nat} : ∀ {n : Nat} {l : List Vl} {s : Sc}, 0 ≤ s.1 → 0 ≤ (elR b n l s).2.1
  | 0, _, _, h => h
  | n + 1, l, s, h => by
    rw [elR]; split
    · exact elR_ge (txtF_ge (nxS_ge (bytR_ge h)))
    · exact h
/-- The same, but for what stands beside an error. -/
def Sim {α : Type} (x y : α × Sc) : Prop := x.2.2 = y.2.2 ∧ (x.2.2 = 0 → x = y)
theorem Sim.refl {α : Type} (x : α × Sc) : Sim x x := ⟨rfl, fun _ => rfl⟩
theorem Sim.map {α β : Type} {x y : α × Sc} (h : Sim x y) (f : α → β) : Sim (f x.1, x.2) (f y.1, y.2) := ⟨h.1, fun e => by rw [h.2 e]⟩
theorem one_sim (b : List Nat) (m : Nat) (s : Sc) : Sim (oneF b m s) (bytR b m s) := by
  unfold oneF bytR
  split
  · exact .refl _
  split
  · exact ⟨rfl, fun e => by cases e⟩
  · by_cases h : m < b.getD s.1.toNat 0
    · rw [if_pos h, decide_eq_true h]
      exact ⟨rfl, fun e => by simp [failS] at e⟩
    · rw [if_neg h, decide_eq_false h, failS_f]
      exact .refl _
theorem nxS_err {b : List Nat} {s : Sc} (h : s.2 ≠ 0) : nxS b s = (0, s) := by rw [nxS, if_neg h]
theorem txtF_err {b : List Nat} {s : Sc} (h : s.2 ≠ 0) : txtF b s = (ByteArray.empty, s) := by
  unfold txtF nxT; rw [if_neg h]; simp [failS, h]
theorem cntF_err' {b : List Nat} {s : Sc} (h : s.2 ≠ 0) : cntF b s = (0, s) := by
  unfold cntF nxU; rw [if_neg h]; simp [failS, h]
theorem oneF_err {b : List Nat} {m : Nat} {s : Sc} (h : s.2 ≠ 0) : oneF b m s = (0, s) := by rw [oneF, if_pos h]
theorem valsF_err {b : List Nat} : ∀ {n : Nat} {l : List Vl} {s : Sc}, s.2 ≠ 0 → (valsF b n l s).2 = s
  | 0, _, _, _ => rfl
  | n + 1, l, s, h => by
    rw [valsF, oneF_err h]
    dsimp only
    rw [nxS_err h]
    dsimp only
    rw [txtF_err h]
    exact valsF_err h
theorem vals_sim {b : List Nat} : ∀ (n : Nat) (l l' : List Vl) (s s' : Sc), s.2 = s'.2 → (s.2 = 0 → s = s' ∧ l = l') → Sim (valsF b n l s) (elR b n l' s')
  | 0, l, l', s, s', h1, h2 => ⟨h1, fun e => by obtain ⟨rfl, rfl⟩ := h2 e; rfl⟩
  | n + 1, l, l', s, s', h1, h2 => by
    by_cases h : s.2 = 0
    · obtain ⟨rfl, rfl⟩ := h2 h
      rw [valsF, elR, if_pos h]
      have ho := one_sim b 1 s
      by_cases e : (oneF b 1 s).2.2 = 0
      · rw [← ho.2 e]
        exact vals_sim n _ _ _ _ rfl fun _ => ⟨rfl, rfl⟩
      · have e' : (bytR b 1 s).2.2 ≠ 0 := by rw [← ho.1]; exact e
        rw [nxS_err e, nxS_err e']
        dsimp only
        rw [txtF_err e, txtF_err e']
        exact vals_sim n _ _ _ _ ho.1 fun h => absurd h e
    · have h' : s'.2 ≠ 0 := by rw [← h1]; exact h
      rw [elR_err h']
      have hv := valsF_err (b := b) (n := n + 1) (l := l) h
      exact ⟨by rw [hv]; exact h1, fun e => by rw [hv] at e; exact absurd e h⟩
theorem kids_sim {rd rd' : Sc → Pr × Sc} (hrd : ∀ s, s.2 = 0 → Sim (rd s) (rd' s)) : ∀ (n : Nat) (l l' : List Pr) (s s' : Sc), s.2 = s'.2 → (s.2 = 0 → s = s' ∧ l = l') → Sim (kidsF rd n l s) (kidsF rd' n l' s')
  | 0, l, l', s, s', h1, h2 => ⟨h1, fun e => by obtain ⟨rfl, rfl⟩ := h2 e; rfl⟩
  | n + 1, l, l', s, s', h1, h2 => by
    by_cases h : s.2 = 0
    · obtain ⟨rfl, rfl⟩ := h2 h
      rw [kidsF, kidsF, if_pos h, if_pos h]
      have hs := hrd s h
      refine kids_sim hrd n _ _ _ _ hs.1 fun e => ?_
      rw [hs.2 e]; exact ⟨rfl, rfl⟩
    · have h' : s'.2 ≠ 0 := by rw [← h1]; exact h
      rw [kidsF, kidsF, if_neg h, if_neg h']
      exact ⟨h1, fun e => absurd e h⟩
/-- A predicate is read by the reference, but for what stands inside it. -/
def readG (b : List Nat) (m : Nat) (rd : Sc → Pr × Sc) (s : Sc) : Pr × Sc :=
  let o := bytR b 7 s
  let i := if isAt o.1 then nxS b o.2 else (0, o.2)
  if o.1 = 1 then
    let l := nxS b i.2
    let h := nxS b l.2
    (.mk o.1 i.1 l.1 h.1 [] ByteArray.empty [], h.2)
  else if o.1 = 2 then
    let c := cntF b i.2
    let r := elR b c.1 [] c.2
    (.mk o.1 i.1 0 0 r.1 ByteArray.empty [], r.2)
  else if o.1 = 3 then
    let t := txtF b i.2
    (.mk o.1 i.1 0 0 [] t.1 [], t.2)
  else if o.1 = 5 ∨ o.1 = 6 ∨ o.1 = 7 then
    let c := cntF b i.2
    let r := kidsF rd c.1 [] (failS (failS c.2 5 (decide (o.1 = 7) && decide (c.1 ≠ 1))) 2 (decide (0 < c.1) && decide (m < 2)))
    (.mk o.1 i.1 0 0 [] ByteArray.empty r.1, r.2)
  else (.mk o.1 i.1 0 0 [] ByteArray.empty [], i.2)
def readF (b : List Nat) : Nat → Sc → Pr × Sc
  | 0 => readG b 0 fun s => (Pr.nul, s)
  | m + 1 => readG b (m + 1) (readF b m)
theorem oneF_big {b : List Nat} {m : Nat} {s : Sc} (h : (oneF b m s).2.2 ≠ 0) : (oneF b m s).1 = 0 ∨ m < (oneF b m s).1 := by
  unfold oneF at h ⊢
  split
  · exact .inl rfl
  · rename_i h1
    rw [if_neg h1] at h
    split
    · exact .inl rfl
    · rename_i h2
      rw [if_neg h2] at h
      by_cases c : m < b.getD s.1.toNat 0
      · exact .inr c
      · rw [decide_eq_false c, failS_f] at h
        exact absurd rfl h
theorem predG_sim {b : List Nat} {m : Nat} {rd rd' : Sc → Pr × Sc} (hrd : ∀ s, s.2 = 0 → Sim (rd s) (rd' s)) (s : Sc) : Sim (predG b m rd s) (readG b m rd' s) := by
  have ho := one_sim b 7 s
  unfold predG readG
  by_cases e : (oneF b 7 s).2.2 = 0
  · rw [← ho.2 e]
    dsimp only
    generalize oneF b 7 s = o
    split
    · exact .refl _
    split
    · exact (vals_sim _ _ _ _ _ rfl fun _ => ⟨rfl, rfl⟩).map fun l => Pr.mk _ _ 0 0 l ByteArray.empty []
    split
    · exact .refl _
    split
    · exact (kids_sim hrd _ _ _ _ _ rfl fun _ => ⟨rfl, rfl⟩).map fun l => Pr.mk _ _ 0 0 [] ByteArray.empty l
    · exact .refl _
  · have e' : (bytR b 7 s).2.2 ≠ 0 := by rw [← ho.1]; exact e
    have h0 := bytR_err e'
    have h1 := oneF_big e
    have he := ho.1
    generalize oneF b 7 s = o at e h1 he
    generalize bytR b 7 s = o' at e' h0 he
    dsimp only
    have c : ¬ o.1 = 1 ∧ ¬ o.1 = 2 ∧ ¬ o.1 = 3 ∧ ¬ (o.1 = 5 ∨ o.1 = 6 ∨ o.1 = 7) := by omega
    have c' : ¬ o'.1 = 1 ∧ ¬ o'.1 = 2 ∧ ¬ o'.1 = 3 ∧ ¬ (o'.1 = 5 ∨ o'.1 = 6 ∨ o'.1 = 7) := by omega
    have a : isAt o.1 = false := by simp [isAt]; omega
    have a' : isAt o'.1 = false := by simp [isAt]; omega
    simp only [c.1, c.2.1, c.2.2.1, c.2.2.2, c'.1, c'.2.1, c'.2.2.1, c'.2.2.2, a, a', if_false, Bool.false_eq_true]
    exact ⟨he, fun h => absurd h e⟩
theorem predF_sim {b : List Nat} : ∀ (m : Nat) (s : Sc), Sim (predF b m s) (readF b m s)
  | 0, s => predG_sim (fun s _ => .refl _) s
  | m + 1, s => predG_sim (fun s _ => predF_sim m s) s
theorem dec_read (b : List Nat) (at_ : Int) : pDecF b at_ = if at_ < 0 ∨ (b.length : Int) < at_ then (Pr.nul, 0, 1) else if (readF b 8 (at_, 0)).2.2 = 0 then ((readF b 8 (at_, 0)).1, (readF b 8 (at_, 0)).2.1, 0) else (Pr.nul, 0, (readF b 8 (at_, 0)).2.2) := by
  unfold pDecF
  have hs := predF_sim (b := b) 8 (at_, 0)
  split
  · rfl
  · dsimp only
    by_cases e : (predF b 8 (at_, 0)).2.2 = 0
    · rw [← hs.2 e, if_pos e]
    · rw [if_neg e, ← hs.1, if_neg e]
theorem vl_cells3 (l : List Vl) : ∀ x ∈ l.map Vl.d, x.cells.length = 3 := fun x hx => by
  obtain ⟨y, _, rfl⟩ := List.mem_map.1 hx; rfl
set_option maxRecDepth 100000 in
set_option maxHeartbeats 8000000 in
theorem elements_ok (b : List Nat) (s : Sc) (hb : Byt b) (hl : b.length ≤ 1099511627776) (h0 : 0 ≤ s.1) : VN P G 82 [.agg (rdC b s)] (.tup [.sl .none ((elR b (cntF b s).1 [] (cntF b s).2).1.map Vl.d), .agg (rdC b (elR b (cntF b s).1 [] (cntF b s).2).2)]) := by
  have hc := rdCount_ok (G := G) b s hb
  have hn16 : (cntF b s).1 ≤ 16 := cntF_le
  have hge : 0 ≤ (cntF b s).2.1 := cntF_ge h0
  obtain ⟨⟨n, t0⟩, hT⟩ : ∃ T, cntF b s = T := ⟨_, rfl⟩
  rw [hT] at hc hn16 hge ⊢
  dsimp only at hc hn16 hge ⊢
  clear hT
  obtain ⟨R, hR⟩ : ∃ R, elR b n [] t0 = R := ⟨_, rfl⟩
  rw [hR]
  simp only [rdC] at hc ⊢
  unfold VN
  refine VC.ofc (fun | 12 => [(0, []), (1, []), (2, []), (3, [])] | 99999999 => [(0, [0, 1, 2, 3, 4, 5, 6, 7, 8, 9, 23])] | _ => []) [.tmp 2, .cell 3 119] mixed Try.func82 rfl rfl rfl rfl (by decide +kernel) (by simp) ?_
  simp only [go_sem, reduceIte, Nat.reduceEqDiff, Nat.reduceAdd, Nat.reduceSub, Nat.reduceMul, Nat.reduceLT, Nat.reduceLeDiff, Nat.reducePow, Int.reduceToNat, Int.reduceLT, Int.reduceLE, Int.reduceEq, Int.reduceNe, Int.reduceAdd, Int.reduceSub, Int.reduceMul, Int.reduceNeg]
  intro b1
  refine new_1 fun b3 h1 h2 => ?_
  try simp only [go_sem, reduceIte, Nat.reduceEqDiff, Nat.reduceAdd, Nat.reduceSub, Nat.reduceMul, Nat.reduceLT, Nat.reduceLeDiff, Nat.reducePow, Int.reduceToNat, Int.reduceLT, Int.reduceLE, Int.reduceEq, Int.reduceNe, Int.reduceAdd, Int.reduceSub, Int.reduceMul, Int.reduceNeg, h1, h2]
  refine cK_vn hc ?_
  try simp only [go_sem, reduceIte, Nat.reduceEqDiff, Nat.reduceAdd, Nat.reduceSub, Nat.reduceMul, Nat.reduceLT, Nat.reduceLeDiff, Nat.reducePow, Int.reduceToNat, Int.reduceLT, Int.reduceLE, Int.reduceEq, Int.reduceNe, Int.reduceAdd, Int.reduceSub, Int.reduceMul, Int.reduceNeg, h1, h2]
  refine new_2 fun b5 h3 h4 h5 => ?_
  try simp only [go_sem, reduceIte, Nat.reduceEqDiff, Nat.reduceAdd, Nat.reduceSub, Nat.reduceMul, Nat.reduceLT, Nat.reduceLeDiff, Nat.reducePow, Int.reduceToNat, Int.reduceLT, Int.reduceLE, Int.reduceEq, Int.reduceNe, Int.reduceAdd, Int.reduceSub, Int.reduceMul, Int.reduceNeg, h1, h2, h3, h4, h5]
  generalize hβ : Heap.set _ b5 _ = β0
  have e5 : β0 b5 = some (rdC b t0) := hit_set hβ
  have e3 : β0 b3 = some [.sl .full [], .int .i64 0, .int .i64 0] := by rw [← hβ]; simp [Heap.set, h1, h2, h3, h4, h5]
  have N : b3 ≠ b5 ∧ b5 ≠ b3 := ⟨h5, h3.2⟩
  clear hβ h1 h2 h3 h4 h5
  refine vwq_loop (fun v => ∃ (i : Nat) (l : List Vl) (s : Sc) (t : Tk), i ≤ n ∧ l.length = i ∧ elR b (n - i) l s = R ∧ 0 ≤ s.1 ∧ TW 3 t v.ω ∧ v.β b5 = some (rdC b s) ∧ v.β b3 = some [.sl .full [], .int .i64 0, .int .i64 0] ∧ v.σ 3 = .pb b3 0 ∧ v.σ 4 = .int .i64 n ∧ v.σ 5 = .pb b5 0 ∧ v.σ 6 = .sl t (l.map Vl.d) ∧ v.σ 7 = .int .i64 i) (fun v => n - (ival (v.σ 7)).toNat) ⟨0, [], t0, .full, by omega, rfl, hR, hge, TW.full 3, e5, e3, rfl, rfl, rfl, rfl, rfl⟩ ?_
  clear e5 e3
  rintro σ β ω ⟨i, l, s, t, hi, hll, hel, hs0, hw, e5, e3, q3, q4, q5, q6, q7⟩
  dsimp only at hw e5 e3 q3 q4 q5 q6 q7
  simp only [rdC] at e5
  have hto := hw.ok
  have htg := hw.gone
  have eL : (l.map Vl.d).length = l.length := by simp
  have vc := vl_cells3 l
  try simp only [go_sem, reduceIte, Nat.reduceEqDiff, Nat.reduceAdd, Nat.reduceSub, Nat.reduceMul, Nat.reduceLT, Nat.reduceLeDiff, Nat.reducePow, Int.reduceToNat, Int.reduceLT, Int.reduceLE, Int.reduceEq, Int.reduceNe, Int.reduceAdd, Int.reduceSub, Int.reduceMul, Int.reduceNeg, N, e5, e3, q3, q4, q5, q6, q7]
  refine cd_dec (fun g => ?_) (fun g => ?_)
  · obtain ⟨g1, g2⟩ := g
    have wj := wrap_i64 (x := (i : Int) + 1) (by omega) (by omega)
    obtain ⟨m, hm⟩ : ∃ m, n - i = m + 1 := ⟨n - i - 1, by omega⟩
    rw [hm, elR, if_pos g2] at hel
    try simp only [go_sem, reduceIte, Nat.reduceEqDiff, Nat.reduceAdd, Nat.reduceSub, Nat.reduceMul, Nat.reduceLT, Nat.reduceLeDiff, Nat.reducePow, Int.reduceToNat, Int.reduceLT, Int.reduceLE, Int.reduceEq, Int.reduceNe, Int.reduceAdd, Int.reduceSub, Int.reduceMul, Int.reduceNeg, N, e5, e3, q3, q4, q5, q6, q7]
    refine new_any fun b9 h9 => ?_
    have N5 := box_ne h9 e5
    have N3 := box_ne h9 e3
    have h1 := rdByte_ok (G := G) b 1 s hs0 hl
    have hs1 := bytR_ge (b := b) (m := 1) hs0
    obtain ⟨⟨z, s1⟩, hz⟩ : ∃ T, bytR b 1 s = T := ⟨_, rfl⟩
    rw [hz] at h1 hel hs1
    dsimp only at h1 hel hs1
    have h2 := rdS_ok (G := G) b s1 hb
    have hs2 := nxS_ge (b := b) hs1
    obtain ⟨⟨x, s2⟩, hx⟩ : ∃ T, nxS b s1 = T := ⟨_, rfl⟩
    rw [hx] at h2 hel hs2
    dsimp only at h2 hel hs2
    have h3 := rdText_ok (G := G) b s2 hb hl
    have hs3 := txtF_ge (b := b) hs2
    obtain ⟨⟨y, s3⟩, hy⟩ : ∃ T, txtF b s2 = T := ⟨_, rfl⟩
    rw [hy] at h3 hel hs3
    dsimp only at h3 hel hs3
    simp only [rdC] at h1 h2 h3
    try simp only [go_sem, reduceIte, Nat.reduceEqDiff, Nat.reduceAdd, Nat.reduceSub, Nat.reduceMul, Nat.reduceLT, Nat.reduceLeDiff, Nat.reducePow, Int.reduceToNat, Int.reduceLT, Int.reduceLE, Int.reduceEq, Int.reduceNe, Int.reduceAdd, Int.reduceSub, Int.reduceMul, Int.reduceNeg, N, N5, N3, e5, e3, q3, q4, q5, q6, q7]
    refine cK_vn h1 ?_
    try simp only [go_sem, reduceIte, Nat.reduceEqDiff, Nat.reduceAdd, Nat.reduceSub, Nat.reduceMul, Nat.reduceLT, Nat.reduceLeDiff, Nat.reducePow, Int.reduceToNat, Int.reduceLT, Int.reduceLE, Int.reduceEq, Int.reduceNe, Int.reduceAdd, Int.reduceSub, Int.reduceMul, Int.reduceNeg, N, N5, N3, e5, e3, q3, q4, q5, q6, q7]
    refine cK_vn h2 ?_
    try simp only [go_sem, reduceIte, Nat.reduceEqDiff, Nat.reduceAdd, Nat.reduceSub, Nat.reduceMul, Nat.reduceLT, Nat.reduceLeDiff, Nat.reducePow, Int.reduceToNat, Int.reduceLT, Int.reduceLE, Int.reduceEq, Int.reduceNe, Int.reduceAdd, Int.reduceSub, Int.reduceMul, Int.reduceNeg, N, N5, N3, e5, e3, q3, q4, q5, q6, q7]
    refine cK_vn h3 ?_
    try simp only [go_sem, reduceIte, Nat.reduceEqDiff, Nat.reduceAdd, Nat.reduceSub, Nat.reduceMul, Nat.reduceLT, Nat.reduceLeDiff, Nat.reducePow, Int.reduceToNat, Int.reduceLT, Int.reduceLE, Int.reduceEq, Int.reduceNe, Int.reduceAdd, Int.reduceSub, Int.reduceMul, Int.reduceNeg, N, N5, N3, e5, e3, q3, q4, q5, q6, q7, hto, htg, wj, eL]
    refine ⟨vc, by omega, fun t' _ => ⟨⟨i + 1, l ++ [⟨decide (z = 1), x, y⟩], s3, .live t' 3, by omega, by simp [hll], by rw [show n - (i + 1) = m by omega]; exact hel, hs3, TW.live 3 t', ?_⟩, by omega⟩⟩
    have hz1 : decide ((z : Int) = 1) = decide (z = 1) := decide_eq_decide.2 (by omega)
    exact ⟨rfl, by rw [hz1]; simp [Vl.d, Vl.cells], rfl⟩
  · try simp only [go_sem, reduceIte, Nat.reduceEqDiff, Nat.reduceAdd, Nat.reduceSub, Nat.reduceMul, Nat.reduceLT, Nat.reduceLeDiff, Nat.reducePow, Int.reduceToNat, Int.reduceLT, Int.reduceLE, Int.reduceEq, Int.reduceNe, Int.reduceAdd, Int.reduceSub, Int.reduceMul, Int.reduceNeg, N, e5, e3, q3, q4, q5, q6, q7]
    have hfin : elR b (n - i) l s = (l, s) := by
      by_cases c : i < n
      · exact elR_err fun h => g ⟨by omega, h⟩
      · rw [show n - i = 0 by omega]; rfl
    rw [hfin] at hel
    subst hel
    exact finK_drop ⟨rfl, rfl, rfl⟩
end Go.Proofs.YtpblgfgcoamgmaaS
