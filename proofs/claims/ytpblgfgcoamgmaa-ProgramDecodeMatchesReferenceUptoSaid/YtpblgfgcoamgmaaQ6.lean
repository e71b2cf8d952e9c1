/-
  Predicates (package pred): the encoding of a predicate.
  Conditions: the predicate has at most 4000000 parts, its numbers are numbers of 64 bits.
-/
import Derived.Test.YtpblgfgcoamgmaaQ4
set_option linter.unusedVariables false
set_option linter.unusedSimpArgs false
namespace Go.Proofs.YtpblgfgcoamgmaaS
open Go Go.Proofs.YtpblgfgcoamgmaaV

variable {G : Heap}
attribute [local irreducible] VN VC VX VQ VP VY VW VTA VT0

def bit (b : Bool) : Nat := if b then 1 else 0
theorem flag_ok (b : Bool) : VN P G 56 [.bool b] (.int .u8 (bit b : Nat)) := by
  unfold VN
  refine VC.ofs (fun | 99999999 => [(0, [0, 2, 3])] | _ => []) [2] mixed Try.func56 rfl rfl rfl rfl (by decide +kernel) (by simp) ?_
  cases b
  all_goals simp only [go_sem, reduceIte, Nat.reduceEqDiff, Nat.reduceAdd, Nat.reduceSub, Nat.reduceMul, Nat.reduceLT, Nat.reduceLeDiff, Nat.reducePow, Int.reduceToNat, Int.reduceLT, Int.reduceLE, Int.reduceEq, Int.reduceNe, Int.reduceAdd, Int.reduceSub, Int.reduceMul, Int.reduceNeg]
  all_goals exact finK_drop ⟨rfl, rfl, rfl⟩
theorem CloneB_ta (tk : Tk) (l : List Nat) (h : l.length ≤ 2^45) : VTA P G 52 [.sl tk (bs l)] 1 (bs l) := by
  unfold VTA
  refine VC.nilcmps (fun | 99999999 => [(0, [0, 2, 4])] | _ => []) [2] mixed Try.func52 rfl rfl rfl (by simp) (by decide +kernel) (by decide +kernel) Try.underlying22 ?_
  simp only [go_sem, reduceIte, Nat.reduceEqDiff, Nat.reduceAdd, Nat.reduceSub, Nat.reduceMul, Nat.reduceLT, Nat.reduceLeDiff, Nat.reducePow, Int.reduceToNat, Int.reduceLT, Int.reduceLE, Int.reduceEq, Int.reduceNe, Int.reduceAdd, Int.reduceSub, Int.reduceMul, Int.reduceNeg]
  refine ⟨_, _, rfl, fun b hb => ?_⟩
  cases b
  all_goals simp only [go_sem, reduceIte, Nat.reduceEqDiff, Nat.reduceAdd, Nat.reduceSub, Nat.reduceMul, Nat.reduceLT, Nat.reduceLeDiff, Nat.reducePow, Int.reduceToNat, Int.reduceLT, Int.reduceLE, Int.reduceEq, Int.reduceNe, Int.reduceAdd, Int.reduceSub, Int.reduceMul, Int.reduceNeg, cd_true, cd_false]
  · refine ⟨by omega, fun t' => fin_ta (by simp [tokOk])⟩
  · have := hb rfl
    cases l with
    | nil => exact fin_ta trivial
    | cons a l => cases this
abbrev I64' (k : Int) : Prop := -9223372036854775808 ≤ k ∧ k < 9223372036854775808
/-- Its own numbers are numbers of 64 bits. -/
structure PI (q : Pr) : Prop where
  id : I64' q.id
  lo : I64' q.lo
  hi : I64' q.hi
  set : ∀ v ∈ q.set, I64' v.n
def encVl (v : Vl) : List Nat := bit v.null :: (enc (zig v.n) ++ enc v.s.size ++ sb v.s)
/-- What stands in the encoding for a predicate alone. -/
def encH (q : Pr) : List Nat := q.op.toNat :: ((if isAt q.op then enc (zig q.id) else []) ++ (if q.op = 1 then enc (zig q.lo) ++ enc (zig q.hi) else if q.op = 2 then enc q.set.length ++ q.set.flatMap encVl else if q.op = 3 then enc q.text.size ++ sb q.text else if 5 ≤ q.op ∧ q.op ≤ 7 then enc q.kids.length else []))
def encP (p : Pr) : List Nat := (subs p).flatMap encH
theorem encVl_len {v : Vl} (h : I64' v.n) (hs : v.s.size ≤ 200) : (encVl v).length ≤ 221 := by
  have h1 := enc_len (zig_lt h)
  have h2 := enc_len (n := v.s.size) (by omega)
  simp only [encVl, List.length_cons, List.length_append, sb_length]; omega
theorem encVls_len : ∀ {l : List Vl}, (∀ v ∈ l, I64' v.n) → (∀ v ∈ l, v.s.size ≤ 200) → (l.flatMap encVl).length ≤ l.length * 221
  | [], _, _ => by simp
  | v :: l, h, hs => by
    have h1 := encVl_len (h v (by simp)) (hs v (by simp))
    have h2 := encVls_len (fun x hx => h x (by simp [hx])) (fun x hx => hs x (by simp [hx])) (l := l)
    simp only [List.flatMap_cons, List.length_append, List.length_cons]; omega
theorem encH_len {q : Pr} (hi : PI q) (hf : FormP q) : (encH q).length ≤ 4000 := by
  have h1 := enc_len (zig_lt hi.id)
  have h2 := enc_len (zig_lt hi.lo)
  have h3 := enc_len (zig_lt hi.hi)
  have h4 := enc_len (n := q.set.length) (by have := hf.s16; omega)
  have h5 := enc_len (n := q.text.size) (by have := hf.t200; omega)
  have h6 := enc_len (n := q.kids.length) (by have := hf.k16; omega)
  have h7 := encVls_len hi.set hf.v200
  have h8 := hf.s16
  have h9 := hf.t200
  unfold encH
  simp only [List.length_cons, List.length_append]
  split <;> (repeat' split) <;> (try simp only [List.length_append, List.length_nil, sb_length]) <;> omega
theorem encHs_len : ∀ {l : List Pr}, (∀ q ∈ l, PI q) → (∀ q ∈ l, FormP q) → (l.flatMap encH).length ≤ l.length * 4000
  | [], _, _ => by simp
  | v :: l, h, hs => by
    have h1 := encH_len (h v (by simp)) (hs v (by simp))
    have h2 := encHs_len (fun x hx => h x (by simp [hx])) (fun x hx => hs x (by simp [hx])) (l := l)
    simp only [List.flatMap_cons, List.length_append, List.length_cons]; omega
theorem wellF_form {p : Pr} (h : wellF p = true) : ∀ q ∈ subs p, FormP q := fun q hq => by
  simp only [wellF, Bool.and_eq_true, List.all_eq_true, decide_eq_true_eq] at h
  exact h.2 q hq
set_option maxRecDepth 100000 in
set_option maxHeartbeats 4000000 in
theorem pEncode_ta (tk : Tk) (b : List Nat) (p : Pr) (hb : b.length ≤ 2^40) (hn : (subs p).length ≤ 4000000) (hi : ∀ q ∈ subs p, PI q) : VTA P G 30 [.sl tk (bs b), .agg p.cells] 1 (bs (b ++ if wellF p then encP p else [])) := by
  have hw := wellFormed_ok (G := G) p
  unfold VTA
  refine VC.ofs (fun | 11 => [(0, []), (1, []), (2, []), (4, []), (5, [3]), (3, []), (6, []), (7, [])] | 17 => [(0, [3]), (1, []), (2, []), (6, []), (7, [3]), (9, []), (10, [3, 8]), (3, []), (4, []), (5, []), (8, []), (11, []), (12, [])] | 99999999 => [(0, [0, 1, 3, 4, 5, 6, 8, 13, 16, 26, 32, 33, 42, 51, 52, 53, 54, 70, 76])] | _ => []) [4] mixed Try.func30 rfl rfl rfl rfl (by decide +kernel) (by simp) ?_
  simp only [go_sem, reduceIte, Nat.reduceEqDiff, Nat.reduceAdd, Nat.reduceSub, Nat.reduceMul, Nat.reduceLT, Nat.reduceLeDiff, Nat.reducePow, Int.reduceToNat, Int.reduceLT, Int.reduceLE, Int.reduceEq, Int.reduceNe, Int.reduceAdd, Int.reduceSub, Int.reduceMul, Int.reduceNeg]
  intro b3
  refine cK_ta (CloneB_ta tk b (by omega)) fun tk0 ω0 htw _ => ?_
  try simp only [go_sem, reduceIte, Nat.reduceEqDiff, Nat.reduceAdd, Nat.reduceSub, Nat.reduceMul, Nat.reduceLT, Nat.reduceLeDiff, Nat.reducePow, Int.reduceToNat, Int.reduceLT, Int.reduceLE, Int.reduceEq, Int.reduceNe, Int.reduceAdd, Int.reduceSub, Int.reduceMul, Int.reduceNeg, ]
  refine new_1 fun b5 h1 h2 => ?_
  try simp only [go_sem, reduceIte, Nat.reduceEqDiff, Nat.reduceAdd, Nat.reduceSub, Nat.reduceMul, Nat.reduceLT, Nat.reduceLeDiff, Nat.reducePow, Int.reduceToNat, Int.reduceLT, Int.reduceLE, Int.reduceEq, Int.reduceNe, Int.reduceAdd, Int.reduceSub, Int.reduceMul, Int.reduceNeg, h1, h2]
  refine cK_vn hw ?_
  cases hwf : wellF p
  · try simp only [go_sem, reduceIte, Nat.reduceEqDiff, Nat.reduceAdd, Nat.reduceSub, Nat.reduceMul, Nat.reduceLT, Nat.reduceLeDiff, Nat.reducePow, Int.reduceToNat, Int.reduceLT, Int.reduceLE, Int.reduceEq, Int.reduceNe, Int.reduceAdd, Int.reduceSub, Int.reduceMul, Int.reduceNeg, h1, h2]
    have := htw.okr []
    rw [List.append_nil] at this
    exact fin_ta this
  try simp only [if_true]
  have hform := wellF_form hwf
  have htok := htw.okr []
  rw [List.append_nil] at htok
  try simp only [go_sem, reduceIte, Nat.reduceEqDiff, Nat.reduceAdd, Nat.reduceSub, Nat.reduceMul, Nat.reduceLT, Nat.reduceLeDiff, Nat.reducePow, Int.reduceToNat, Int.reduceLT, Int.reduceLE, Int.reduceEq, Int.reduceNe, Int.reduceAdd, Int.reduceSub, Int.reduceMul, Int.reduceNeg, h1, h2]
  generalize hβ : Heap.set _ b5 _ = β0
  have e3 : β0 b3 = some p.cells := by rw [← hβ]; simp [Heap.set, h1, h2]
  have e5 : β0 b5 = some [.sl tk0 (bs b)] := by rw [← hβ]; simp [Heap.set]
  clear hβ
  refine cK_fr (d := .clo (.func 54) [] []) (args := [.agg p.cells]) (all_ok p) (Part.nil _ _) ?_ ?_
  rotate_left
  · rintro r β1 ω1 ⟨b, h, _⟩; cases h
  rintro r β1 ω1 β' ω' ⟨bq, hr, rfl, rfl⟩ hpt hkeep hω
  cases hr
  rw [joinT_nil] at hω
  subst hω
  have e5 := hkeep b5 _ e5 rfl
  have eq := hpt.box bq p.cells (by simp [Heap.set])
  clear hkeep hpt
  simp only [go_sem, reduceIte, Nat.reduceEqDiff, Nat.reduceAdd, Nat.reduceSub, Nat.reduceMul, Nat.reduceLT, Nat.reduceLeDiff, Nat.reducePow, Int.reduceToNat, Int.reduceLT, Int.reduceLE, Int.reduceEq, Int.reduceNe, Int.reduceAdd, Int.reduceSub, Int.reduceMul, Int.reduceNeg]
  generalize hσ : upd _ 0 _ = σ0
  have q5 : σ0 5 = .pb b5 0 := by rw [← hσ]; rfl
  clear hσ
  refine rg_all (pb := false) (I := fun vis β c ω => ∃ tk, c = [.sl tk (bs (b ++ vis.flatMap encH))] ∧ tokOk 1 ω tk) (J := fun _ _ _ _ => False) (bo := b5) (fun | 11 => [(0, []), (1, []), (2, []), (4, []), (5, [3]), (3, []), (6, []), (7, [])] | 17 => [(0, [3]), (1, []), (2, []), (6, []), (7, [3]), (9, []), (10, [3, 8]), (3, []), (4, []), (5, []), (8, []), (11, []), (12, [])] | 99999999 => [(0, [0, 1, 3, 4, 5, 6, 8, 13, 16, 26, 32, 33, 42, 51, 52, 53, 54, 70, 76])] | _ => []) eq e5 ⟨tk0, by simp, htok⟩ (fun _ _ _ _ h => h) (fun vis β β' c ω hm h => h) (fun _ _ _ _ _ _ h => h) rfl rfl rfl (by decide +kernel) (by decide +kernel) ?_ ?_ (fun _ _ _ _ _ _ h => h.elim)
  · rintro l r q vis β c ω hl hpre ⟨tk1, rfl, hok⟩ hk hbo hlr
    rw [show roundσ σ0 #[17].toList [D.agg q.cells] = upd σ0 17 (.agg q.cells) from rfl]
    try simp only [go_sem, reduceIte, Nat.reduceEqDiff, Nat.reduceAdd, Nat.reduceSub, Nat.reduceMul, Nat.reduceLT, Nat.reduceLeDiff, Nat.reducePow, Int.reduceToNat, Int.reduceLT, Int.reduceLE, Int.reduceEq, Int.reduceNe, Int.reduceAdd, Int.reduceSub, Int.reduceMul, Int.reduceNeg, q5]
    refine new_any fun b6 hb6 => ?_
    have N := And.intro (box_ne hb6 hlr) (And.intro (box_ne hb6 hbo) (box_ne hl e5))
    try simp only [go_sem, reduceIte, Nat.reduceEqDiff, Nat.reduceAdd, Nat.reduceSub, Nat.reduceMul, Nat.reduceLT, Nat.reduceLeDiff, Nat.reducePow, Int.reduceToNat, Int.reduceLT, Int.reduceLE, Int.reduceEq, Int.reduceNe, Int.reduceAdd, Int.reduceSub, Int.reduceMul, Int.reduceNeg, q5, N, hbo, hlr]
    have hf := hform q (hpre.subset (by simp))
    have hq := hi q (hpre.subset (by simp))
    obtain ⟨o1, o2⟩ := hf.op
    have hlen : (b ++ vis.flatMap encH).length ≤ 2^42 := by
      have h1 := hpre.length_le
      have h2 := encHs_len (l := vis) (fun x hx => hi x (hpre.subset (by simp [hx]))) (fun x hx => hform x (hpre.subset (by simp [hx])))
      simp only [List.length_append, List.length_cons, List.length_nil] at h1 ⊢
      have : vis.length * 4000 ≤ 4000000 * 4000 := Nat.mul_le_mul_right _ (by omega)
      omega
    generalize hβ2 : Heap.set (Heap.set β b6 _) l _ = β2
    obtain ⟨g1, g2, g3, g4, g5⟩ := rg_head hl hk hbo hlr rfl hb6 _ _ hβ2
    clear hβ2 hb6
    obtain ⟨acc, hacc⟩ : ∃ acc, b ++ vis.flatMap encH = acc := ⟨_, rfl⟩
    have hflat : b ++ (vis ++ [q]).flatMap encH = acc ++ encH q := by rw [List.flatMap_append, ← hacc]; simp
    rw [hacc] at hlen ⊢
    have hend : ∀ {σ1 : Nat → D} {ω3 : List Nat} {X : List Nat} {t : Nat}, t ∈ ω3 → X = acc ++ encH q → rgQ β' b5 l r σ0 (fun β c ω => ∃ tk, c = [.sl tk (bs (b ++ (vis ++ [q]).flatMap encH))] ∧ tokOk 1 ω tk) (fun _ _ _ _ => False) .normal ⟨σ1, β2.set b5 [.sl (.live t 1) (bs X)], ω3⟩ := by
      rintro σ1 ω3 X t ht rfl
      refine rgQ_end (fun b cs e1 e2 => ?_) ?_ (hit_set rfl) ⟨.live t 1, by rw [hflat], (show tokOk 1 ω3 (.live t 1) from ⟨ht, rfl⟩)⟩
      · simp only [Heap.set, if_neg e2]; exact g1 b cs e1 e2
      · simp only [Heap.set, if_neg (Ne.symm N.2.2.1)]; exact g3
    refine ⟨hok, by omega, fun t1 _ => ?_⟩
    have wop : q.op % 256 = ((q.op.toNat : Nat) : Int) := by omega
    obtain ⟨o, hop⟩ : ∃ o, q.op.toNat = o := ⟨_, rfl⟩
    rw [wop, bs_snoc, hop]
    have hid := enc_len (zig_lt hq.id)
    have hlo := enc_len (zig_lt hq.lo)
    have hhi := enc_len (zig_lt hq.hi)
    refine cK_vn (isAtom_ok q.op) ?_
    obtain h | h | h | h | h | h | h | h : q.op = 0 ∨ q.op = 1 ∨ q.op = 2 ∨ q.op = 3 ∨ q.op = 4 ∨ q.op = 5 ∨ q.op = 6 ∨ q.op = 7 := by omega
    · have ha : isAt q.op = false := by rw [h]; rfl
      have hE : encH q = [o] := by rw [encH, ha, hop]; try simp [h]
      try simp only [go_sem, reduceIte, Nat.reduceEqDiff, Nat.reduceAdd, Nat.reduceSub, Nat.reduceMul, Nat.reduceLT, Nat.reduceLeDiff, Nat.reducePow, Int.reduceToNat, Int.reduceLT, Int.reduceLE, Int.reduceEq, Int.reduceNe, Int.reduceAdd, Int.reduceSub, Int.reduceMul, Int.reduceNeg, q5, N, ha, g4]
      try simp only [go_sem, reduceIte, Nat.reduceEqDiff, Nat.reduceAdd, Nat.reduceSub, Nat.reduceMul, Nat.reduceLT, Nat.reduceLeDiff, Nat.reducePow, Int.reduceToNat, Int.reduceLT, Int.reduceLE, Int.reduceEq, Int.reduceNe, Int.reduceAdd, Int.reduceSub, Int.reduceMul, Int.reduceNeg, q5, N, g4, h]
      exact hend (List.mem_cons_self ..) (by rw [hE])
    · have ha : isAt q.op = true := by rw [h]; rfl
      have hE : encH q = [o] ++ enc (zig q.id) ++ enc (zig q.lo) ++ enc (zig q.hi) := by rw [encH, ha, hop]; try simp [h]
      try simp only [go_sem, reduceIte, Nat.reduceEqDiff, Nat.reduceAdd, Nat.reduceSub, Nat.reduceMul, Nat.reduceLT, Nat.reduceLeDiff, Nat.reducePow, Int.reduceToNat, Int.reduceLT, Int.reduceLE, Int.reduceEq, Int.reduceNe, Int.reduceAdd, Int.reduceSub, Int.reduceMul, Int.reduceNeg, q5, N, ha, g4]
      refine cK_t0 (S_ok _ (acc ++ [o]) q.id hq.id (by simp; omega) (by omega)) fun t2 _ => ?_
      try simp only [go_sem, reduceIte, Nat.reduceEqDiff, Nat.reduceAdd, Nat.reduceSub, Nat.reduceMul, Nat.reduceLT, Nat.reduceLeDiff, Nat.reducePow, Int.reduceToNat, Int.reduceLT, Int.reduceLE, Int.reduceEq, Int.reduceNe, Int.reduceAdd, Int.reduceSub, Int.reduceMul, Int.reduceNeg, q5, N, g4, h]
      refine cE_t0 (S_ok _ (acc ++ [o] ++ enc (zig q.id)) q.lo hq.lo (by simp; omega) (by omega)) fun t3 _ => ?_
      try simp only [go_sem, reduceIte, Nat.reduceEqDiff, Nat.reduceAdd, Nat.reduceSub, Nat.reduceMul, Nat.reduceLT, Nat.reduceLeDiff, Nat.reducePow, Int.reduceToNat, Int.reduceLT, Int.reduceLE, Int.reduceEq, Int.reduceNe, Int.reduceAdd, Int.reduceSub, Int.reduceMul, Int.reduceNeg, q5, N, g4, h]
      refine cE_t0 (S_ok _ (acc ++ [o] ++ enc (zig q.id) ++ enc (zig q.lo)) q.hi hq.hi (by simp; omega) (by omega)) fun t4 _ => ?_
      try simp only [go_sem, reduceIte, Nat.reduceEqDiff, Nat.reduceAdd, Nat.reduceSub, Nat.reduceMul, Nat.reduceLT, Nat.reduceLeDiff, Nat.reducePow, Int.reduceToNat, Int.reduceLT, Int.reduceLE, Int.reduceEq, Int.reduceNe, Int.reduceAdd, Int.reduceSub, Int.reduceMul, Int.reduceNeg, q5, N, g4, h]
      exact ⟨by simp [rdAdd, N], hend (List.mem_cons_self ..) (by rw [hE]; try simp)⟩
    · have ha : isAt q.op = true := by rw [h]; rfl
      have hE : encH q = [o] ++ enc (zig q.id) ++ enc q.set.length ++ q.set.flatMap encVl := by rw [encH, ha, hop]; try simp [h]
      have hs16 := hf.s16
      have wk : ((q.set.map Vl.d).length : Int) % 18446744073709551616 = ((q.set.length : Nat) : Int) := by rw [List.length_map]; omega
      have el : (q.set.map Vl.d).length = q.set.length := by simp
      try simp only [go_sem, reduceIte, Nat.reduceEqDiff, Nat.reduceAdd, Nat.reduceSub, Nat.reduceMul, Nat.reduceLT, Nat.reduceLeDiff, Nat.reducePow, Int.reduceToNat, Int.reduceLT, Int.reduceLE, Int.reduceEq, Int.reduceNe, Int.reduceAdd, Int.reduceSub, Int.reduceMul, Int.reduceNeg, q5, N, ha, g4]
      refine cK_t0 (S_ok _ (acc ++ [o]) q.id hq.id (by simp; omega) (by omega)) fun t2 _ => ?_
      try simp only [go_sem, reduceIte, Nat.reduceEqDiff, Nat.reduceAdd, Nat.reduceSub, Nat.reduceMul, Nat.reduceLT, Nat.reduceLeDiff, Nat.reducePow, Int.reduceToNat, Int.reduceLT, Int.reduceLE, Int.reduceEq, Int.reduceNe, Int.reduceAdd, Int.reduceSub, Int.reduceMul, Int.reduceNeg, q5, N, g4, h, wk]
      refine cK_t0 (U_ok _ (acc ++ [o] ++ enc (zig q.id)) q.set.length (by simp; omega) (by have := enc_len (n := q.set.length) (by omega); omega)) fun t3 _ => ?_
      have hsl := enc_len (n := q.set.length) (by omega)
      try simp only [go_sem, reduceIte, Nat.reduceEqDiff, Nat.reduceAdd, Nat.reduceSub, Nat.reduceMul, Nat.reduceLT, Nat.reduceLeDiff, Nat.reducePow, Int.reduceToNat, Int.reduceLT, Int.reduceLE, Int.reduceEq, Int.reduceNe, Int.reduceAdd, Int.reduceSub, Int.reduceMul, Int.reduceNeg, q5, N, g4, h, el]
      refine vwq_loop (fun v => ∃ (j : Nat) (t : Nat), j ≤ q.set.length ∧ t ∈ v.ω ∧ v.β b5 = some [.sl (.live t 1) (bs (acc ++ [o] ++ enc (zig q.id) ++ enc q.set.length ++ (q.set.take j).flatMap encVl))] ∧ v.β l = some [.lp (LpBusy r) σ0] ∧ (∀ b cs, β' b = some cs → b ≠ b5 → v.β b = some cs) ∧ v.σ 5 = .pb b5 0 ∧ v.σ 51 = .sl .none (q.set.map Vl.d) ∧ v.σ 52 = .int .i64 q.set.length ∧ v.σ 53 = .int .i64 j) (fun v => q.set.length - (ival (v.σ 53)).toNat) ⟨0, t3, by omega, by simp, by simp [Heap.set], by simp only [Heap.set, if_neg (Ne.symm N.2.2.1)]; exact g3, (fun b cs e1 e2 => by simp only [Heap.set, if_neg e2]; exact g1 b cs e1 e2), rfl, rfl, rfl, rfl⟩ ?_
      rintro σ β ω ⟨j, t, hj, ht, e5', el', hkp, q5, q51, q52, q53⟩
      dsimp only at q5 q51 q52 q53 e5' el' hkp
      try simp only [go_sem, reduceIte, Nat.reduceEqDiff, Nat.reduceAdd, Nat.reduceSub, Nat.reduceMul, Nat.reduceLT, Nat.reduceLeDiff, Nat.reducePow, Int.reduceToNat, Int.reduceLT, Int.reduceLE, Int.reduceEq, Int.reduceNe, Int.reduceAdd, Int.reduceSub, Int.reduceMul, Int.reduceNeg, q5, q51, q52, q53]
      refine cd_dec (fun g => ?_) (fun g => ?_)
      · have g' := eq_true g
        obtain ⟨x, hx, ex⟩ := Vl_at (l := q.set) (j := j) (by rw [List.length_map]; omega)
        have c1 : ((0 : Int) ≤ j) = True := eq_true (by omega)
        have wj := wrap_i64 (x := (j : Int) + 1) (by omega) (by omega)
        have hm := List.mem_of_getElem? hx
        have hxi := hq.set x hm
        have hxs := hf.v200 x hm
        have hzl := enc_len (zig_lt hxi)
        have hvl := encVls_len (l := q.set.take j) (fun v hv => hq.set v (List.mem_of_mem_take hv)) (fun v hv => hf.v200 v (List.mem_of_mem_take hv))
        rw [List.length_take] at hvl
        obtain ⟨a2, ha2⟩ : ∃ a2, acc ++ [o] ++ enc (zig q.id) ++ enc q.set.length ++ (q.set.take j).flatMap encVl = a2 := ⟨_, rfl⟩
        have hla : a2.length ≤ 2^43 := by
          rw [← ha2]
          simp only [List.length_append, List.length_cons, List.length_nil]
          omega
        have hnext : acc ++ [o] ++ enc (zig q.id) ++ enc q.set.length ++ (q.set.take (j + 1)).flatMap encVl = a2 ++ [bit x.null] ++ enc (zig x.n) ++ enc x.s.size ++ sb x.s := by
          rw [List.take_add_one, hx, ← ha2, List.flatMap_append]; simp [encVl]
        rw [ha2] at e5'
        have htk : tokOk 1 ω (.live t 1) = True := eq_true ⟨ht, rfl⟩
        try simp only [go_sem, reduceIte, Nat.reduceEqDiff, Nat.reduceAdd, Nat.reduceSub, Nat.reduceMul, Nat.reduceLT, Nat.reduceLeDiff, Nat.reducePow, Int.reduceToNat, Int.reduceLT, Int.reduceLE, Int.reduceEq, Int.reduceNe, Int.reduceAdd, Int.reduceSub, Int.reduceMul, Int.reduceNeg, q5, q51, q52, q53, ex, c1, g', el]
        refine new_any fun b8 hb8 => ?_
        have N2 := And.intro (box_ne hb8 e5') (box_ne hb8 el')
        try simp only [go_sem, reduceIte, Nat.reduceEqDiff, Nat.reduceAdd, Nat.reduceSub, Nat.reduceMul, Nat.reduceLT, Nat.reduceLeDiff, Nat.reducePow, Int.reduceToNat, Int.reduceLT, Int.reduceLE, Int.reduceEq, Int.reduceNe, Int.reduceAdd, Int.reduceSub, Int.reduceMul, Int.reduceNeg, q5, q51, q52, q53, e5', N2]
        refine cE_vn (flag_ok x.null) ?_
        try simp only [go_sem, reduceIte, Nat.reduceEqDiff, Nat.reduceAdd, Nat.reduceSub, Nat.reduceMul, Nat.reduceLT, Nat.reduceLeDiff, Nat.reducePow, Int.reduceToNat, Int.reduceLT, Int.reduceLE, Int.reduceEq, Int.reduceNe, Int.reduceAdd, Int.reduceSub, Int.reduceMul, Int.reduceNeg, q5, q51, q52, q53, e5', N2, htk]
        refine ⟨by omega, fun t5 _ => ?_⟩
        rw [bs_snoc]
        refine cE_t0 (S_ok _ (a2 ++ [bit x.null]) x.n hxi (by simp; omega) (by omega)) fun t6 _ => ?_
        try simp only [go_sem, reduceIte, Nat.reduceEqDiff, Nat.reduceAdd, Nat.reduceSub, Nat.reduceMul, Nat.reduceLT, Nat.reduceLeDiff, Nat.reducePow, Int.reduceToNat, Int.reduceLT, Int.reduceLE, Int.reduceEq, Int.reduceNe, Int.reduceAdd, Int.reduceSub, Int.reduceMul, Int.reduceNeg, q5, q51, q52, q53, e5', N2]
        refine cE_t0 (Text_ok _ (a2 ++ [bit x.null] ++ enc (zig x.n)) x.s (by simp; omega) (by have := enc_len (n := x.s.size) (by omega); omega)) fun t7 _ => ?_
        try simp only [go_sem, reduceIte, Nat.reduceEqDiff, Nat.reduceAdd, Nat.reduceSub, Nat.reduceMul, Nat.reduceLT, Nat.reduceLeDiff, Nat.reducePow, Int.reduceToNat, Int.reduceLT, Int.reduceLE, Int.reduceEq, Int.reduceNe, Int.reduceAdd, Int.reduceSub, Int.reduceMul, Int.reduceNeg, q5, q51, q52, q53, e5', N2, wj]
        refine ⟨by simp [rdAdd, N2], ⟨j + 1, t7, by omega, List.mem_cons_self .., ?_, ?_, fun b cs e1 e2 => ?_, rfl⟩, by omega⟩
        · rw [hnext]; try exact hit_set rfl
        · simp only [Heap.set, if_neg (Ne.symm N.2.2.1), if_neg N2.2.1]; exact el'
        · have e8 : b ≠ b8 := fun e => by have := hkp b cs e1 e2; rw [e, hb8] at this; cases this
          simp only [Heap.set, if_neg e2, if_neg e8]; exact hkp b cs e1 e2
      · try simp only [go_sem, reduceIte, Nat.reduceEqDiff, Nat.reduceAdd, Nat.reduceSub, Nat.reduceMul, Nat.reduceLT, Nat.reduceLeDiff, Nat.reducePow, Int.reduceToNat, Int.reduceLT, Int.reduceLE, Int.reduceEq, Int.reduceNe, Int.reduceAdd, Int.reduceSub, Int.reduceMul, Int.reduceNeg, q5, q51, q52, q53]
        rw [List.take_of_length_le (by omega)] at e5'
        exact rgQ_end hkp el' e5' ⟨.live t 1, by rw [hflat, hE]; simp, (show tokOk 1 ω (.live t 1) from ⟨ht, rfl⟩)⟩
    · have ha : isAt q.op = true := by rw [h]; rfl
      have hE : encH q = [o] ++ enc (zig q.id) ++ enc q.text.size ++ sb q.text := by rw [encH, ha, hop]; try simp [h]
      have ht := hf.t200
      try simp only [go_sem, reduceIte, Nat.reduceEqDiff, Nat.reduceAdd, Nat.reduceSub, Nat.reduceMul, Nat.reduceLT, Nat.reduceLeDiff, Nat.reducePow, Int.reduceToNat, Int.reduceLT, Int.reduceLE, Int.reduceEq, Int.reduceNe, Int.reduceAdd, Int.reduceSub, Int.reduceMul, Int.reduceNeg, q5, N, ha, g4]
      refine cK_t0 (S_ok _ (acc ++ [o]) q.id hq.id (by simp; omega) (by omega)) fun t2 _ => ?_
      try simp only [go_sem, reduceIte, Nat.reduceEqDiff, Nat.reduceAdd, Nat.reduceSub, Nat.reduceMul, Nat.reduceLT, Nat.reduceLeDiff, Nat.reducePow, Int.reduceToNat, Int.reduceLT, Int.reduceLE, Int.reduceEq, Int.reduceNe, Int.reduceAdd, Int.reduceSub, Int.reduceMul, Int.reduceNeg, q5, N, g4, h]
      refine cK_t0 (Text_ok _ (acc ++ [o] ++ enc (zig q.id)) q.text (by simp; omega) (by have := enc_len (n := q.text.size) (by omega); omega)) fun t3 _ => ?_
      try simp only [go_sem, reduceIte, Nat.reduceEqDiff, Nat.reduceAdd, Nat.reduceSub, Nat.reduceMul, Nat.reduceLT, Nat.reduceLeDiff, Nat.reducePow, Int.reduceToNat, Int.reduceLT, Int.reduceLE, Int.reduceEq, Int.reduceNe, Int.reduceAdd, Int.reduceSub, Int.reduceMul, Int.reduceNeg, q5, N, g4, h]
      exact hend (List.mem_cons_self ..) (by rw [hE]; try simp)
    · have ha : isAt q.op = true := by rw [h]; rfl
      have hE : encH q = [o] ++ enc (zig q.id) := by rw [encH, ha, hop]; try simp [h]
      try simp only [go_sem, reduceIte, Nat.reduceEqDiff, Nat.reduceAdd, Nat.reduceSub, Nat.reduceMul, Nat.reduceLT, Nat.reduceLeDiff, Nat.reducePow, Int.reduceToNat, Int.reduceLT, Int.reduceLE, Int.reduceEq, Int.reduceNe, Int.reduceAdd, Int.reduceSub, Int.reduceMul, Int.reduceNeg, q5, N, ha, g4]
      refine cK_t0 (S_ok _ (acc ++ [o]) q.id hq.id (by simp; omega) (by omega)) fun t2 _ => ?_
      try simp only [go_sem, reduceIte, Nat.reduceEqDiff, Nat.reduceAdd, Nat.reduceSub, Nat.reduceMul, Nat.reduceLT, Nat.reduceLeDiff, Nat.reducePow, Int.reduceToNat, Int.reduceLT, Int.reduceLE, Int.reduceEq, Int.reduceNe, Int.reduceAdd, Int.reduceSub, Int.reduceMul, Int.reduceNeg, q5, N, g4, h]
      exact hend (List.mem_cons_self ..) (by rw [hE]; try simp)
    all_goals
      have ha : isAt q.op = false := by rw [h]; rfl
      have hE : encH q = [o] ++ enc q.kids.length := by rw [encH, ha, hop]; try simp [h]
      have hk16 := hf.k16
      have wk : ((q.kids.map Pr.d).length : Int) % 18446744073709551616 = ((q.kids.length : Nat) : Int) := by rw [List.length_map]; omega
      try simp only [go_sem, reduceIte, Nat.reduceEqDiff, Nat.reduceAdd, Nat.reduceSub, Nat.reduceMul, Nat.reduceLT, Nat.reduceLeDiff, Nat.reducePow, Int.reduceToNat, Int.reduceLT, Int.reduceLE, Int.reduceEq, Int.reduceNe, Int.reduceAdd, Int.reduceSub, Int.reduceMul, Int.reduceNeg, q5, N, ha, g4]
      try simp only [go_sem, reduceIte, Nat.reduceEqDiff, Nat.reduceAdd, Nat.reduceSub, Nat.reduceMul, Nat.reduceLT, Nat.reduceLeDiff, Nat.reducePow, Int.reduceToNat, Int.reduceLT, Int.reduceLE, Int.reduceEq, Int.reduceNe, Int.reduceAdd, Int.reduceSub, Int.reduceMul, Int.reduceNeg, q5, N, g4, h, wk]
      refine cK_t0 (U_ok _ (acc ++ [o]) q.kids.length (by simp; omega) (by have := enc_len (n := q.kids.length) (by omega); omega)) fun t2 _ => ?_
      try simp only [go_sem, reduceIte, Nat.reduceEqDiff, Nat.reduceAdd, Nat.reduceSub, Nat.reduceMul, Nat.reduceLT, Nat.reduceLeDiff, Nat.reducePow, Int.reduceToNat, Int.reduceLT, Int.reduceLE, Int.reduceEq, Int.reduceNe, Int.reduceAdd, Int.reduceSub, Int.reduceMul, Int.reduceNeg, q5, N, g4, h]
      exact hend (List.mem_cons_self ..) (by rw [hE]; try simp)
  · rintro β c ω hk hbo ⟨tk1, rfl, hok⟩
    try simp only [go_sem, reduceIte, Nat.reduceEqDiff, Nat.reduceAdd, Nat.reduceSub, Nat.reduceMul, Nat.reduceLT, Nat.reduceLeDiff, Nat.reducePow, Int.reduceToNat, Int.reduceLT, Int.reduceLE, Int.reduceEq, Int.reduceNe, Int.reduceAdd, Int.reduceSub, Int.reduceMul, Int.reduceNeg, q5, hbo]
    exact fin_ta hok
end Go.Proofs.YtpblgfgcoamgmaaS
