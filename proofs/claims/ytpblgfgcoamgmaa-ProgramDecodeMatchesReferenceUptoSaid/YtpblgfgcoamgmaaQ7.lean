/-
  Predicates (package pred): decoding.
  Conditions: the bytes are at most 1099511627776.
-/
import Derived.Test.YtpblgfgcoamgmaaQ1
set_option linter.unusedVariables false
set_option linter.unusedSimpArgs false
namespace Go.Proofs.YtpblgfgcoamgmaaS
open Go Go.Proofs.YtpblgfgcoamgmaaV

variable {G : Heap}
attribute [local irreducible] VN VC VX VQ VY VW VTA VT0

/-- The state of a source: where it stands, and its error. -/
abbrev Sc := Int × Int
def scC (tk : Tk) (b : List Nat) (s : Sc) : List D := [.sl tk (bs b), .int .i64 s.1, .int .i64 s.2]
def nxU (b : List Nat) (s : Sc) : Nat × Sc := if s.2 = 0 then ((readU b s.1).1, ((readU b s.1).2.1, (readU b s.1).2.2)) else (0, s)
def nxS (b : List Nat) (s : Sc) : Int × Sc := if s.2 = 0 then (unzig (readU b s.1).1, ((readU b s.1).2.1, (readU b s.1).2.2)) else (0, s)
def nxT (b : List Nat) (s : Sc) : ByteArray × Sc := if s.2 = 0 then (strN ((b.drop (spanF b s.1).1).take ((spanF b s.1).2.1 - (spanF b s.1).1)), ((spanF b s.1).2.1, (spanF b s.1).2.2)) else (ByteArray.empty, s)
def failS (s : Sc) (e : Int) (w : Bool) : Sc := if s.2 = 0 ∧ w = true then (s.1, e) else s
def oneF (b : List Nat) (most : Nat) (s : Sc) : Nat × Sc :=
  if s.2 ≠ 0 then (0, s) else if (b.length : Int) ≤ s.1 then (0, (s.1, 6)) else (b.getD s.1.toNat 0, failS (s.1 + 1, 0) 5 (decide (most < b.getD s.1.toNat 0)))
def txtF (b : List Nat) (s : Sc) : ByteArray × Sc := ((nxT b s).1, failS (nxT b s).2 2 (decide (200 < ((nxT b s).1.size : Int))))
def cntF (b : List Nat) (s : Sc) : Nat × Sc :=
  let n := nxU b s
  let s2 := failS n.2 2 (decide (16 < (n.1 : Int)))
  if s2.2 = 0 then (n.1, s2) else (0, s2)
theorem nextU_ok (tk : Tk) (b : List Nat) (s : Sc) (hb : Byt b) : VP P G 78 (fun p => [.pb p 0, .clo (.func 64) [] []]) (scC tk b s) (.int .u64 (nxU b s).1) (scC tk b (nxU b s).2) := by
  have hr := ReadU_ok (G := G) tk b s.1 hb
  simp only [scC, tri] at hr ⊢
  intro p
  refine VC.ofs (fun | 4 => [(0, []), (1, []), (2, []), (3, []), (4, []), (5, []), (6, []), (7, []), (8, []), (9, []), (10, []), (11, []), (12, []), (13, []), (14, []), (15, []), (16, [])] | 99999999 => [(0, [0, 1, 4, 5, 6, 7, 8, 13])] | _ => []) [4] mixed Try.func78 rfl rfl rfl rfl (by decide +kernel) (by simp) ?_
  by_cases k : s.2 = 0
  · simp only [go_sem, reduceIte, Nat.reduceEqDiff, Nat.reduceAdd, Nat.reduceSub, Nat.reduceMul, Nat.reduceLT, Nat.reduceLeDiff, Nat.reducePow, Int.reduceToNat, Int.reduceLT, Int.reduceLE, Int.reduceEq, Int.reduceNe, Int.reduceAdd, Int.reduceSub, Int.reduceMul, Int.reduceNeg, k]
    refine cE_vn hr ?_
    simp only [go_sem, reduceIte, Nat.reduceEqDiff, Nat.reduceAdd, Nat.reduceSub, Nat.reduceMul, Nat.reduceLT, Nat.reduceLeDiff, Nat.reducePow, Int.reduceToNat, Int.reduceLT, Int.reduceLE, Int.reduceEq, Int.reduceNe, Int.reduceAdd, Int.reduceSub, Int.reduceMul, Int.reduceNeg, k]
    refine finK_var (b := p) (x := scC tk b (nxU b s).2) (by simp [Heap.set, nxU, k, scC]) ⟨?_, rfl, rfl⟩
    simp [nxU, k, D.er, D.er1]
  · simp only [go_sem, reduceIte, Nat.reduceEqDiff, Nat.reduceAdd, Nat.reduceSub, Nat.reduceMul, Nat.reduceLT, Nat.reduceLeDiff, Nat.reducePow, Int.reduceToNat, Int.reduceLT, Int.reduceLE, Int.reduceEq, Int.reduceNe, Int.reduceAdd, Int.reduceSub, Int.reduceMul, Int.reduceNeg, k, ne_eq]
    refine finK_var (b := p) (x := scC tk b (nxU b s).2) (by simp [Heap.set, nxU, k, scC]) ⟨?_, rfl, rfl⟩
    simp [nxU, k, D.er, D.er1]
theorem nextS_ok (tk : Tk) (b : List Nat) (s : Sc) (hb : Byt b) : VP P G 59 (fun p => [.pb p 0, .clo (.func 40) [] []]) (scC tk b s) (.int .i64 (nxS b s).1) (scC tk b (nxS b s).2) := by
  have hr := ReadS_ok (G := G) tk b s.1 hb
  simp only [scC, triS] at hr ⊢
  intro p
  refine VC.ofs (fun | 4 => [(0, []), (1, []), (2, []), (3, []), (4, []), (5, []), (6, []), (7, []), (8, []), (9, []), (10, []), (11, []), (12, []), (13, []), (14, []), (15, []), (16, [])] | 99999999 => [(0, [0, 1, 4, 5, 6, 7, 8, 13])] | _ => []) [4] mixed Try.func59 rfl rfl rfl rfl (by decide +kernel) (by simp) ?_
  by_cases k : s.2 = 0
  · simp only [go_sem, reduceIte, Nat.reduceEqDiff, Nat.reduceAdd, Nat.reduceSub, Nat.reduceMul, Nat.reduceLT, Nat.reduceLeDiff, Nat.reducePow, Int.reduceToNat, Int.reduceLT, Int.reduceLE, Int.reduceEq, Int.reduceNe, Int.reduceAdd, Int.reduceSub, Int.reduceMul, Int.reduceNeg, k]
    refine cE_vn hr ?_
    simp only [go_sem, reduceIte, Nat.reduceEqDiff, Nat.reduceAdd, Nat.reduceSub, Nat.reduceMul, Nat.reduceLT, Nat.reduceLeDiff, Nat.reducePow, Int.reduceToNat, Int.reduceLT, Int.reduceLE, Int.reduceEq, Int.reduceNe, Int.reduceAdd, Int.reduceSub, Int.reduceMul, Int.reduceNeg, k]
    refine finK_var (b := p) (x := scC tk b (nxS b s).2) (by simp [Heap.set, nxS, k, scC]) ⟨?_, rfl, rfl⟩
    simp [nxS, k, D.er, D.er1]
  · simp only [go_sem, reduceIte, Nat.reduceEqDiff, Nat.reduceAdd, Nat.reduceSub, Nat.reduceMul, Nat.reduceLT, Nat.reduceLeDiff, Nat.reducePow, Int.reduceToNat, Int.reduceLT, Int.reduceLE, Int.reduceEq, Int.reduceNe, Int.reduceAdd, Int.reduceSub, Int.reduceMul, Int.reduceNeg, k, ne_eq]
    refine finK_var (b := p) (x := scC tk b (nxS b s).2) (by simp [Heap.set, nxS, k, scC]) ⟨?_, rfl, rfl⟩
    simp [nxS, k, D.er, D.er1]
theorem nextT_ok (tk : Tk) (b : List Nat) (s : Sc) (hb : Byt b) : VP P G 79 (fun p => [.pb p 0, .clo (.func 42) [] []]) (scC tk b s) (.str (nxT b s).1) (scC tk b (nxT b s).2) := by
  have hr := ReadText_ok (G := G) tk b s.1 hb
  simp only [scC, triT] at hr ⊢
  intro p
  refine VC.ofs (fun | 4 => [(0, []), (1, []), (2, []), (3, []), (4, []), (5, []), (6, []), (7, []), (8, []), (9, []), (10, []), (11, []), (12, []), (13, []), (14, []), (15, []), (16, [])] | 99999999 => [(0, [0, 1, 4, 5, 6, 7, 8, 13])] | _ => []) [4] mixed Try.func79 rfl rfl rfl rfl (by decide +kernel) (by simp) ?_
  by_cases k : s.2 = 0
  · simp only [go_sem, reduceIte, Nat.reduceEqDiff, Nat.reduceAdd, Nat.reduceSub, Nat.reduceMul, Nat.reduceLT, Nat.reduceLeDiff, Nat.reducePow, Int.reduceToNat, Int.reduceLT, Int.reduceLE, Int.reduceEq, Int.reduceNe, Int.reduceAdd, Int.reduceSub, Int.reduceMul, Int.reduceNeg, k]
    refine cE_vn hr ?_
    simp only [go_sem, reduceIte, Nat.reduceEqDiff, Nat.reduceAdd, Nat.reduceSub, Nat.reduceMul, Nat.reduceLT, Nat.reduceLeDiff, Nat.reducePow, Int.reduceToNat, Int.reduceLT, Int.reduceLE, Int.reduceEq, Int.reduceNe, Int.reduceAdd, Int.reduceSub, Int.reduceMul, Int.reduceNeg, k]
    refine finK_var (b := p) (x := scC tk b (nxT b s).2) (by simp [Heap.set, nxT, k, scC]) ⟨?_, rfl, rfl⟩
    simp [nxT, k, D.er, D.er1]
  · simp only [go_sem, reduceIte, Nat.reduceEqDiff, Nat.reduceAdd, Nat.reduceSub, Nat.reduceMul, Nat.reduceLT, Nat.reduceLeDiff, Nat.reducePow, Int.reduceToNat, Int.reduceLT, Int.reduceLE, Int.reduceEq, Int.reduceNe, Int.reduceAdd, Int.reduceSub, Int.reduceMul, Int.reduceNeg, k, ne_eq]
    refine finK_var (b := p) (x := scC tk b (nxT b s).2) (by simp [Heap.set, nxT, k, scC]) ⟨?_, rfl, rfl⟩
    simp [nxT, k, D.er, D.er1]; rfl
theorem fail_ok (tk : Tk) (b : List Nat) (s : Sc) (e : Int) (w : Bool) : VP P G 62 (fun p => [.pb p 0, .int .i64 e, .bool w]) (scC tk b s) (.tup []) (scC tk b (failS s e w)) := by
  simp only [scC]
  intro p
  refine VC.ofs (fun | 99999999 => [(0, [0, 1, 2, 13])] | _ => []) [] mixed Try.func62 rfl rfl rfl rfl (by decide +kernel) (by simp) ?_
  by_cases k : s.2 = 0
  all_goals cases w
  all_goals simp only [go_sem, reduceIte, Nat.reduceEqDiff, Nat.reduceAdd, Nat.reduceSub, Nat.reduceMul, Nat.reduceLT, Nat.reduceLeDiff, Nat.reducePow, Int.reduceToNat, Int.reduceLT, Int.reduceLE, Int.reduceEq, Int.reduceNe, Int.reduceAdd, Int.reduceSub, Int.reduceMul, Int.reduceNeg, k]
  all_goals refine finK_var (b := p) (x := scC tk b (failS s e _)) (by simp [Heap.set, failS, k, scC]) ⟨?_, rfl, rfl⟩
  all_goals rfl
theorem Fini.var (b : Nat) (x : List D) : Fini (Heap.nil.set b x) := ⟨b + 1, fun b' h => by
  unfold Heap.set; rw [if_neg (by omega)]; rfl⟩
theorem cE_vp {P : Program} {G : Heap} {f : FuncId} {args : Nat → List D} {x y : List D} {d : D} {b : Nat} {β : Heap} {ω : List Nat} {U : List Nat} {i : Nat} {rd : Rd} {ops : Array Oper} {es : List Ent} {Q : VE → St → Prop} {dst : Option Tmp} {σ : Sg}
    (h : VP P G f args x d y) (hb : β b = some x) (hr : ∀ b', rd i b' → b' ≠ b) (hk : Kd P G ops es Q dst σ d rd (β.set b y) ω) : cE P G U i (.clo (.func f) [] []) True (args b) rd β ω ops es Q dst σ :=
  callE_vc (h b) (Part.var hb) (fun b' hb' => by unfold Heap.set; rw [if_neg (hr b' hb')]; rfl)
    (fun _ N => ⟨d, Heap.nil.set b y, [], ⟨rfl, rfl, rfl⟩, Fini.var b y, fun b' h1 h2 => by
      unfold Heap.set at h1 h2
      by_cases e : b' = b
      · rw [if_pos e] at h2; cases h2
      · rw [if_neg e] at h1; exact absurd rfl h1, fun t ht => by simp at ht⟩)
    (fun d' β' ω' ⟨β1, ω1, ⟨h1, h2, h3⟩, _, _, h4, h5⟩ => by
      cases h1; subst h2 h3 h4 h5
      rw [joinH_box hb]
      simpa using hk)
    (fun d' β' ω' ⟨β1, ω1, ⟨h1, h2, h3⟩, _, _, h4, h5⟩ => by cases h1)
theorem text_ok (tk : Tk) (b : List Nat) (s : Sc) (hb : Byt b) : VP P G 61 (fun p => [.pb p 0]) (scC tk b s) (.str (txtF b s).1) (scC tk b (txtF b s).2) := by
  have h1 := nextT_ok (G := G) tk b s hb
  have h2 := fail_ok (G := G) tk b (nxT b s).2 2 (decide (200 < ((nxT b s).1.size : Int)))
  intro p
  refine VC.ofs (fun | 99999999 => [(0, [0, 2, 3])] | _ => []) [2] mixed Try.func61 rfl rfl rfl rfl (by decide +kernel) (by simp) ?_
  simp only [go_sem, reduceIte, Nat.reduceEqDiff, Nat.reduceAdd, Nat.reduceSub, Nat.reduceMul, Nat.reduceLT, Nat.reduceLeDiff, Nat.reducePow, Int.reduceToNat, Int.reduceLT, Int.reduceLE, Int.reduceEq, Int.reduceNe, Int.reduceAdd, Int.reduceSub, Int.reduceMul, Int.reduceNeg]
  refine cK_vp h1 (by simp [Heap.set]) ?_
  try simp only [go_sem, reduceIte, Nat.reduceEqDiff, Nat.reduceAdd, Nat.reduceSub, Nat.reduceMul, Nat.reduceLT, Nat.reduceLeDiff, Nat.reducePow, Int.reduceToNat, Int.reduceLT, Int.reduceLE, Int.reduceEq, Int.reduceNe, Int.reduceAdd, Int.reduceSub, Int.reduceMul, Int.reduceNeg, ]
  refine cK_vp h2 (by simp [Heap.set]) ?_
  try simp only [go_sem, reduceIte, Nat.reduceEqDiff, Nat.reduceAdd, Nat.reduceSub, Nat.reduceMul, Nat.reduceLT, Nat.reduceLeDiff, Nat.reducePow, Int.reduceToNat, Int.reduceLT, Int.reduceLE, Int.reduceEq, Int.reduceNe, Int.reduceAdd, Int.reduceSub, Int.reduceMul, Int.reduceNeg, ]
  refine finK_var (b := p) (x := scC tk b (txtF b s).2) (by simp only [Heap.set, if_true, txtF]) ⟨rfl, rfl, rfl⟩
theorem count_ok (tk : Tk) (b : List Nat) (s : Sc) (hb : Byt b) : VP P G 60 (fun p => [.pb p 0]) (scC tk b s) (.int .i64 (cntF b s).1) (scC tk b (cntF b s).2) := by
  obtain ⟨n, hn⟩ : ∃ n, nxU b s = n := ⟨_, rfl⟩
  obtain ⟨s2, hs2⟩ : ∃ s2, failS n.2 2 (decide (16 < (n.1 : Int))) = s2 := ⟨_, rfl⟩
  have h1 := nextU_ok (G := G) tk b s hb
  have h2 := fail_ok (G := G) tk b n.2 2 (decide (16 < (n.1 : Int)))
  rw [hs2] at h2
  rw [hn] at h1
  have hF : cntF b s = if s2.2 = 0 then (n.1, s2) else (0, s2) := by subst hn hs2; rfl
  have h16 : s2.2 = 0 → n.1 ≤ 16 := fun h => by
    rw [← hs2] at h
    unfold failS at h
    split at h
    · cases h
    · rename_i g
      have := fun h' => g ⟨h, h'⟩
      simp at this; omega
  rw [hF]
  intro p
  refine VC.ofs (fun | 99999999 => [(0, [0, 2, 3, 14])] | _ => []) [2] mixed Try.func60 rfl rfl rfl rfl (by decide +kernel) (by simp) ?_
  simp only [go_sem, reduceIte, Nat.reduceEqDiff, Nat.reduceAdd, Nat.reduceSub, Nat.reduceMul, Nat.reduceLT, Nat.reduceLeDiff, Nat.reducePow, Int.reduceToNat, Int.reduceLT, Int.reduceLE, Int.reduceEq, Int.reduceNe, Int.reduceAdd, Int.reduceSub, Int.reduceMul, Int.reduceNeg]
  refine cK_vp h1 (by simp [Heap.set]) ?_
  try simp only [go_sem, reduceIte, Nat.reduceEqDiff, Nat.reduceAdd, Nat.reduceSub, Nat.reduceMul, Nat.reduceLT, Nat.reduceLeDiff, Nat.reducePow, Int.reduceToNat, Int.reduceLT, Int.reduceLE, Int.reduceEq, Int.reduceNe, Int.reduceAdd, Int.reduceSub, Int.reduceMul, Int.reduceNeg, ]
  refine cK_vp h2 (by simp [Heap.set]) ?_
  by_cases k : s2.2 = 0
  · have := h16 k
    have w := wrap_i64 (x := (n.1 : Int)) (by omega) (by omega)
    try simp only [go_sem, reduceIte, Nat.reduceEqDiff, Nat.reduceAdd, Nat.reduceSub, Nat.reduceMul, Nat.reduceLT, Nat.reduceLeDiff, Nat.reducePow, Int.reduceToNat, Int.reduceLT, Int.reduceLE, Int.reduceEq, Int.reduceNe, Int.reduceAdd, Int.reduceSub, Int.reduceMul, Int.reduceNeg, scC, k, w]
    refine finK_var (b := p) (x := scC tk b s2) (by simp [Heap.set, scC, k]) ⟨rfl, by simp [scC, k], rfl⟩
  · try simp only [go_sem, reduceIte, Nat.reduceEqDiff, Nat.reduceAdd, Nat.reduceSub, Nat.reduceMul, Nat.reduceLT, Nat.reduceLeDiff, Nat.reducePow, Int.reduceToNat, Int.reduceLT, Int.reduceLE, Int.reduceEq, Int.reduceNe, Int.reduceAdd, Int.reduceSub, Int.reduceMul, Int.reduceNeg, scC, k, ne_eq]
    refine finK_var (b := p) (x := scC tk b s2) (by simp [Heap.set, scC]) ⟨rfl, by simp [scC], rfl⟩
theorem bs_get {l : List Nat} {i : Int} (h0 : 0 ≤ i) (h : i < l.length) : (bs l).getD i.toNat .any = .int .u8 ((l.getD i.toNat 0 : Nat) : Int) := bs_at l (by omega)
theorem one_ok (tk : Tk) (b : List Nat) (most : Nat) (s : Sc) (h0 : 0 ≤ s.1) (hb : b.length ≤ 1099511627776) : VP P G 58 (fun p => [.pb p 0, .int .u8 most]) (scC tk b s) (.int .u8 (oneF b most s).1) (scC tk b (oneF b most s).2) := by
  have hf := fun s e w => fail_ok (G := G) tk b s e w
  obtain ⟨at_, e⟩ := s
  dsimp only at h0
  simp only [scC] at hf ⊢
  intro p
  refine VC.ofs (fun | 1 => [(0, []), (1, []), (2, []), (3, []), (4, []), (5, []), (6, []), (7, []), (8, []), (9, []), (10, []), (11, []), (12, []), (13, []), (14, []), (15, []), (16, []), (17, []), (18, [])] | 4 => [(0, []), (1, []), (2, []), (3, []), (4, []), (5, []), (6, []), (7, []), (8, []), (9, []), (10, [])] | 99999999 => [(0, [0, 1, 4, 5, 29])] | _ => []) [4] mixed Try.func58 rfl rfl rfl rfl (by decide +kernel) (by simp) ?_
  have el : (bs b).length = b.length := bs_length b
  by_cases k : e = 0
  · subst k
    by_cases k1 : (b.length : Int) ≤ at_
    · have k1' := eq_true k1
      have hF : oneF b most (at_, 0) = (0, (at_, 6)) := by simp [oneF, k1]
      have hf1 := hf (at_, 0) 6 true
      rw [show failS (at_, 0) 6 true = (at_, 6) from rfl] at hf1
      rw [hF]
      try simp only [go_sem, reduceIte, Nat.reduceEqDiff, Nat.reduceAdd, Nat.reduceSub, Nat.reduceMul, Nat.reduceLT, Nat.reduceLeDiff, Nat.reducePow, Int.reduceToNat, Int.reduceLT, Int.reduceLE, Int.reduceEq, Int.reduceNe, Int.reduceAdd, Int.reduceSub, Int.reduceMul, Int.reduceNeg, el, k1', ge_iff_le, decide_true]
      refine cE_vp hf1 (by simp [Heap.set]) (by simp) ?_
      try simp only [go_sem, reduceIte, Nat.reduceEqDiff, Nat.reduceAdd, Nat.reduceSub, Nat.reduceMul, Nat.reduceLT, Nat.reduceLeDiff, Nat.reducePow, Int.reduceToNat, Int.reduceLT, Int.reduceLE, Int.reduceEq, Int.reduceNe, Int.reduceAdd, Int.reduceSub, Int.reduceMul, Int.reduceNeg, ne_eq]
      exact finK_var (b := p) (by simp [Heap.set]) ⟨rfl, rfl, rfl⟩
    · have k1' := eq_false k1
      obtain ⟨c, hc⟩ : ∃ c, b.getD at_.toNat 0 = c := ⟨_, rfl⟩
      have hF : oneF b most (at_, 0) = (c, failS (at_ + 1, 0) 5 (decide (most < c))) := by simp only [oneF, ne_eq, not_true_eq_false, if_false, if_neg k1, hc]
      have hf1 := hf (at_, 0) 6 false
      rw [show failS (at_, 0) 6 false = (at_, 0) from rfl] at hf1
      have hf2 := hf (at_ + 1, 0) 5 (decide (most < c))
      have c1 := eq_true h0
      have c2 : (at_ < (b.length : Int)) = True := eq_true (by omega)
      have ex := bs_get h0 (show at_ < (b.length : Int) by omega)
      rw [hc] at ex
      have w1 := wrap_i64 (x := at_ + 1) (by omega) (by omega)
      have hd : decide ((most : Int) < (c : Int)) = decide (most < c) := by simp
      rw [hF]
      try simp only [go_sem, reduceIte, Nat.reduceEqDiff, Nat.reduceAdd, Nat.reduceSub, Nat.reduceMul, Nat.reduceLT, Nat.reduceLeDiff, Nat.reducePow, Int.reduceToNat, Int.reduceLT, Int.reduceLE, Int.reduceEq, Int.reduceNe, Int.reduceAdd, Int.reduceSub, Int.reduceMul, Int.reduceNeg, el, k1', ge_iff_le, decide_false]
      refine cE_vp hf1 (by simp [Heap.set]) (by simp) ?_
      try simp only [go_sem, reduceIte, Nat.reduceEqDiff, Nat.reduceAdd, Nat.reduceSub, Nat.reduceMul, Nat.reduceLT, Nat.reduceLeDiff, Nat.reducePow, Int.reduceToNat, Int.reduceLT, Int.reduceLE, Int.reduceEq, Int.reduceNe, Int.reduceAdd, Int.reduceSub, Int.reduceMul, Int.reduceNeg, ne_eq, el, c1, c2, ex, w1]
      rw [hd]
      refine cK_vp hf2 (by simp [Heap.set]) ?_
      try simp only [go_sem, reduceIte, Nat.reduceEqDiff, Nat.reduceAdd, Nat.reduceSub, Nat.reduceMul, Nat.reduceLT, Nat.reduceLeDiff, Nat.reducePow, Int.reduceToNat, Int.reduceLT, Int.reduceLE, Int.reduceEq, Int.reduceNe, Int.reduceAdd, Int.reduceSub, Int.reduceMul, Int.reduceNeg, ]
      exact finK_var (b := p) (by simp [Heap.set]) ⟨rfl, rfl, rfl⟩
  · have k' := eq_false k
    have hF : oneF b most (at_, e) = (0, (at_, e)) := by simp [oneF, k]
    have hf1 := hf (at_, e) 6 false
    rw [show failS (at_, e) 6 false = (at_, e) from by simp [failS]] at hf1
    rw [hF]
    try simp only [go_sem, reduceIte, Nat.reduceEqDiff, Nat.reduceAdd, Nat.reduceSub, Nat.reduceMul, Nat.reduceLT, Nat.reduceLeDiff, Nat.reducePow, Int.reduceToNat, Int.reduceLT, Int.reduceLE, Int.reduceEq, Int.reduceNe, Int.reduceAdd, Int.reduceSub, Int.reduceMul, Int.reduceNeg, el, k', decide_false]
    refine cE_vp hf1 (by simp [Heap.set]) (by simp) ?_
    try simp only [go_sem, reduceIte, Nat.reduceEqDiff, Nat.reduceAdd, Nat.reduceSub, Nat.reduceMul, Nat.reduceLT, Nat.reduceLeDiff, Nat.reducePow, Int.reduceToNat, Int.reduceLT, Int.reduceLE, Int.reduceEq, Int.reduceNe, Int.reduceAdd, Int.reduceSub, Int.reduceMul, Int.reduceNeg, ne_eq, k', not_false_eq_true, decide_true]
    exact finK_var (b := p) (by simp [Heap.set]) ⟨rfl, rfl, rfl⟩
def valsF (b : List Nat) : Nat → List Vl → Sc → List Vl × Sc
  | 0, l, s => (l, s)
  | n + 1, l, s => valsF b n (l ++ [⟨decide ((oneF b 1 s).1 = 1), (nxS b (oneF b 1 s).2).1, (txtF b (nxS b (oneF b 1 s).2).2).1⟩]) (txtF b (nxS b (oneF b 1 s).2).2).2
def kidsF (rd : Sc → Pr × Sc) : Nat → List Pr → Sc → List Pr × Sc
  | 0, l, s => (l, s)
  | n + 1, l, s => if s.2 = 0 then kidsF rd n (l ++ [(rd s).1]) (rd s).2 else (l, s)
/-- A predicate is read, but for what stands inside it. -/
def predG (b : List Nat) (m : Nat) (rd : Sc → Pr × Sc) (s : Sc) : Pr × Sc :=
  let o := oneF b 7 s
  let i := if isAt o.1 then nxS b o.2 else (0, o.2)
  if o.1 = 1 then
    let l := nxS b i.2
    let h := nxS b l.2
    (.mk o.1 i.1 l.1 h.1 [] ByteArray.empty [], h.2)
  else if o.1 = 2 then
    let c := cntF b i.2
    let r := valsF b c.1 [] c.2
    (.mk o.1 i.1 0 0 r.1 ByteArray.empty [], r.2)
  else if o.1 = 3 then
    let t := txtF b i.2
    (.mk o.1 i.1 0 0 [] t.1 [], t.2)
  else if o.1 = 5 ∨ o.1 = 6 ∨ o.1 = 7 then
    let c := cntF b i.2
    let r := kidsF rd c.1 [] (failS (failS c.2 5 (decide (o.1 = 7) && decide (c.1 ≠ 1))) 2 (decide (0 < c.1) && decide (m < 2)))
    (.mk o.1 i.1 0 0 [] ByteArray.empty r.1, r.2)
  else (.mk o.1 i.1 0 0 [] ByteArray.empty [], i.2)
def Pr.nul : Pr := .mk 0 0 0 0 [] ByteArray.empty []
def predF (b : List Nat) : Nat → Sc → Pr × Sc
  | 0 => predG b 0 fun s => (Pr.nul, s)
  | m + 1 => predG b (m + 1) (predF b m)
/-! No reading goes back before the begin. -/
theorem failS_ge {s : Sc} {e : Int} {w : Bool} (h : 0 ≤ s.1) : 0 ≤ (failS s e w).1 := by unfold failS; split <;> exact h
theorem nxU_ge {b : List Nat} {s : Sc} (h : 0 ≤ s.1) : 0 ≤ (nxU b s).2.1 := by unfold nxU; split <;> first | exact h | exact Int.natCast_nonneg _
theorem nxS_ge {b : List Nat} {s : Sc} (h : 0 ≤ s.1) : 0 ≤ (nxS b s).2.1 := by unfold nxS; split <;> first | exact h | exact Int.natCast_nonneg _
theorem nxT_ge {b : List Nat} {s : Sc} (h : 0 ≤ s.1) : 0 ≤ (nxT b s).2.1 := by unfold nxT; split <;> first | exact h | exact Int.natCast_nonneg _
theorem oneF_ge {b : List Nat} {m : Nat} {s : Sc} (h : 0 ≤ s.1) : 0 ≤ (oneF b m s).2.1 := by
  unfold oneF; split
  · exact h
  · split
    · exact h
    · exact failS_ge (by dsimp only; omega)
theorem txtF_ge {b : List Nat} {s : Sc} (h : 0 ≤ s.1) : 0 ≤ (txtF b s).2.1 := failS_ge (nxT_ge h)
theorem cntF_ge {b : List Nat} {s : Sc} (h : 0 ≤ s.1) : 0 ≤ (cntF b s).2.1 := by
  unfold cntF; dsimp only; split <;> exact failS_ge (nxU_ge h)
theorem cntF_le {b : List Nat} {s : Sc} : (cntF b s).1 ≤ 16 := by
  unfold cntF; dsimp only
  split
  · rename_i h
    unfold failS at h
    split at h
    · cases h
    · rename_i g
      have := fun h' => g ⟨h, h'⟩
      simp at this; omega
  · simp
theorem cntF_err {b : List Nat} {s : Sc} (h : (cntF b s).2.2 ≠ 0) : (cntF b s).1 = 0 := by
  unfold cntF at h ⊢; dsimp only at h ⊢
  split
  · rename_i g; rw [if_pos g] at h; exact absurd g h
  · rfl
theorem oneF_lt {b : List Nat} (hb : Byt b) (m : Nat) (s : Sc) : (oneF b m s).1 < 256 := by
  unfold oneF; split
  · simp
  · split
    · simp
    · dsimp only
      by_cases h : s.1.toNat < b.length
      · rw [List.getD, List.getElem?_eq_getElem h]; exact hb _ (List.getElem_mem _)
      · rw [List.getD, List.getElem?_eq_none (by omega)]; simp
theorem finK_vp {p : Nat} {x : List D} {d r : D} {β : Heap} {ω : List Nat} (hb : β p = some x) (hr : d.er = r) : finK (fun o β' ω' => o = .ret r ∧ β' = Heap.nil.set p x ∧ ω' = []) d β ω :=
  finK_var (b := p) hb ⟨by rw [hr], rfl, rfl⟩
set_option maxRecDepth 100000 in
set_option maxHeartbeats 8000000 in
theorem pred_step (tk : Tk) (b : List Nat) (hb : Byt b) (hbl : b.length ≤ 1099511627776) (m : Nat) (hm : m ≤ 100) (rd : Sc → Pr × Sc)
    (hrd : 2 ≤ m → ∀ s, 0 ≤ s.1 → VP P G 34 (fun p => [.pb p 0, .int .i64 ((m : Int) - 1)]) (scC tk b s) (.agg (rd s).1.cells) (scC tk b (rd s).2) ∧ 0 ≤ (rd s).2.1) (s : Sc) (hs : 0 ≤ s.1) :
    VP P G 34 (fun p => [.pb p 0, .int .i64 m]) (scC tk b s) (.agg (predG b m rd s).1.cells) (scC tk b (predG b m rd s).2) := by
  have h1 := one_ok (G := G) tk b 7 s hs hbl
  have g1 := oneF_ge (b := b) (m := 7) hs
  obtain ⟨o, s1, ho⟩ : ∃ o s1, oneF b 7 s = (o, s1) := ⟨_, _, rfl⟩
  have hnS := fun s => nextS_ok (G := G) tk b s hb
  have htx := fun s => text_ok (G := G) tk b s hb
  have hct := fun s => count_ok (G := G) tk b s hb
  have hfl := fun s e w => fail_ok (G := G) tk b s e w
  have hv1 := fun (s : Sc) (h : 0 ≤ s.1) => one_ok (G := G) tk b 1 s h hbl
  have hat := isAtom_ok (G := G) (o : Int)
  rw [ho] at h1 g1
  dsimp only at h1 g1
  obtain ⟨R, hR⟩ : ∃ R, predG b m rd s = R := ⟨_, rfl⟩
  have hR' := hR
  rw [hR]
  unfold predG at hR'
  rw [ho] at hR'
  dsimp only at hR'
  intro p
  refine VC.ofc (fun | 27 => [(0, []), (1, [5]), (2, []), (3, []), (4, []), (5, []), (6, []), (7, []), (8, []), (9, [])] | 99999999 => [(0, [0, 1, 4, 5, 6, 7, 14, 19, 20, 28, 31, 32, 33, 51, 56, 79, 80, 81, 86])] | _ => []) [.cell 4 27] mixed Try.func34 rfl rfl rfl rfl (by decide +kernel) (by simp) ?_
  have ho7 : o < 256 := by have := oneF_lt hb 7 s; rw [ho] at this; exact this
  have wo := wrap_i64 (x := (o : Int)) (by omega) (by omega)
  simp only [go_sem, reduceIte, Nat.reduceEqDiff, Nat.reduceAdd, Nat.reduceSub, Nat.reduceMul, Nat.reduceLT, Nat.reduceLeDiff, Nat.reducePow, Int.reduceToNat, Int.reduceLT, Int.reduceLE, Int.reduceEq, Int.reduceNe, Int.reduceAdd, Int.reduceSub, Int.reduceMul, Int.reduceNeg]
  refine new_1 fun b4 q1 q2 => ?_
  try simp only [go_sem, reduceIte, Nat.reduceEqDiff, Nat.reduceAdd, Nat.reduceSub, Nat.reduceMul, Nat.reduceLT, Nat.reduceLeDiff, Nat.reducePow, Int.reduceToNat, Int.reduceLT, Int.reduceLE, Int.reduceEq, Int.reduceNe, Int.reduceAdd, Int.reduceSub, Int.reduceMul, Int.reduceNeg, q1, q2]
  refine cK_vp h1 (by simp [Heap.set, q1, q2]) ?_
  have N := And.intro q1 q2
  try simp only [go_sem, reduceIte, Nat.reduceEqDiff, Nat.reduceAdd, Nat.reduceSub, Nat.reduceMul, Nat.reduceLT, Nat.reduceLeDiff, Nat.reducePow, Int.reduceToNat, Int.reduceLT, Int.reduceLE, Int.reduceEq, Int.reduceNe, Int.reduceAdd, Int.reduceSub, Int.reduceMul, Int.reduceNeg, q1, q2, wo]
  generalize hβ : Heap.set _ p _ = β0
  have ep : β0 p = some (scC tk b s1) := by rw [← hβ]; simp [Heap.set]
  have e4 : β0 b4 = some [.int .i64 0, .int .i64 0, .int .i64 0, .int .i64 0, .sl .full [], .str ByteArray.empty, .sl .full []] := by rw [← hβ]; simp [Heap.set, q1, q2]
  clear hβ
  refine new_any fun b5 hb5 => ?_
  have N := And.intro N (box_ne hb5 ep)
  have N := And.intro N (box_ne hb5 e4)
  try simp only [go_sem, reduceIte, Nat.reduceEqDiff, Nat.reduceAdd, Nat.reduceSub, Nat.reduceMul, Nat.reduceLT, Nat.reduceLeDiff, Nat.reducePow, Int.reduceToNat, Int.reduceLT, Int.reduceLE, Int.reduceEq, Int.reduceNe, Int.reduceAdd, Int.reduceSub, Int.reduceMul, Int.reduceNeg, N]
  generalize hβ_ : Heap.set _ b5 _ = β_
  have e5 := hit_set hβ_
  have ep := keep_new hβ_ hb5 ep
  have e4 := keep_new hβ_ hb5 e4
  clear hβ_ hb5
  refine cK_vn hat ?_
  obtain ⟨i, hi⟩ : ∃ i : Int × Sc, (if isAt o then nxS b s1 else (0, s1)) = i := ⟨_, rfl⟩
  have gi : 0 ≤ i.2.1 := by rw [← hi]; split; exact nxS_ge g1; exact g1
  rw [hi] at hR'
  by_cases ka : isAt o = true
  · rw [if_pos ka] at hi
    have hn := hnS s1
    rw [hi] at hn
    have o4 : o = 1 ∨ o = 2 ∨ o = 3 ∨ o = 4 := by
      simp only [isAt, Bool.and_eq_true, decide_eq_true_eq] at ka
      omega
    try simp only [go_sem, reduceIte, Nat.reduceEqDiff, Nat.reduceAdd, Nat.reduceSub, Nat.reduceMul, Nat.reduceLT, Nat.reduceLeDiff, Nat.reducePow, Int.reduceToNat, Int.reduceLT, Int.reduceLE, Int.reduceEq, Int.reduceNe, Int.reduceAdd, Int.reduceSub, Int.reduceMul, Int.reduceNeg, N, ka]
    refine cK_vp hn ep ?_
    try simp only [go_sem, reduceIte, Nat.reduceEqDiff, Nat.reduceAdd, Nat.reduceSub, Nat.reduceMul, Nat.reduceLT, Nat.reduceLeDiff, Nat.reducePow, Int.reduceToNat, Int.reduceLT, Int.reduceLE, Int.reduceEq, Int.reduceNe, Int.reduceAdd, Int.reduceSub, Int.reduceMul, Int.reduceNeg, N, e5]
    rcases o4 with rfl | rfl | rfl | rfl
    · try simp only [go_sem, reduceIte, Nat.reduceEqDiff, Nat.reduceAdd, Nat.reduceSub, Nat.reduceMul, Nat.reduceLT, Nat.reduceLeDiff, Nat.reducePow, Int.reduceToNat, Int.reduceLT, Int.reduceLE, Int.reduceEq, Int.reduceNe, Int.reduceAdd, Int.reduceSub, Int.reduceMul, Int.reduceNeg, N]
      refine cK_vp (hnS i.2) (by simp [Heap.set, N]) ?_
      try simp only [go_sem, reduceIte, Nat.reduceEqDiff, Nat.reduceAdd, Nat.reduceSub, Nat.reduceMul, Nat.reduceLT, Nat.reduceLeDiff, Nat.reducePow, Int.reduceToNat, Int.reduceLT, Int.reduceLE, Int.reduceEq, Int.reduceNe, Int.reduceAdd, Int.reduceSub, Int.reduceMul, Int.reduceNeg, N]
      refine cK_vp (hnS (nxS b i.2).2) (by simp [Heap.set, N]) ?_
      try simp only [go_sem, reduceIte, Nat.reduceEqDiff, Nat.reduceAdd, Nat.reduceSub, Nat.reduceMul, Nat.reduceLT, Nat.reduceLeDiff, Nat.reducePow, Int.reduceToNat, Int.reduceLT, Int.reduceLE, Int.reduceEq, Int.reduceNe, Int.reduceAdd, Int.reduceSub, Int.reduceMul, Int.reduceNeg, N, e4]
      refine finK_vp (by simp only [Heap.set, N, if_true, if_false]; rw [← hR']; rfl) (by rw [← hR']; rfl)
    · try simp only [go_sem, reduceIte, Nat.reduceEqDiff, Nat.reduceAdd, Nat.reduceSub, Nat.reduceMul, Nat.reduceLT, Nat.reduceLeDiff, Nat.reducePow, Int.reduceToNat, Int.reduceLT, Int.reduceLE, Int.reduceEq, Int.reduceNe, Int.reduceAdd, Int.reduceSub, Int.reduceMul, Int.reduceNeg, N]
      refine cK_vp (hct i.2) (show _ = some (scC tk b i.2) by simp [Heap.set, N]) ?_
      have gc := cntF_ge (b := b) gi
      have hc16 := cntF_le (b := b) (s := i.2)
      obtain ⟨c, hc⟩ : ∃ c, cntF b i.2 = c := ⟨_, rfl⟩
      rw [hc] at gc hc16 hR' ⊢
      obtain ⟨n, s2⟩ := c
      dsimp only at gc hc16 hR'
      obtain ⟨V, hV⟩ : ∃ V, valsF b n [] s2 = V := ⟨_, rfl⟩
      have hR2 : R = (.mk 2 i.1 0 0 V.1 ByteArray.empty [], V.2) := by rw [← hR', ← hV]; rfl
      clear hR' hR
      try simp only [go_sem, reduceIte, Nat.reduceEqDiff, Nat.reduceAdd, Nat.reduceSub, Nat.reduceMul, Nat.reduceLT, Nat.reduceLeDiff, Nat.reducePow, Int.reduceToNat, Int.reduceLT, Int.reduceLE, Int.reduceEq, Int.reduceNe, Int.reduceAdd, Int.reduceSub, Int.reduceMul, Int.reduceNeg, N]
      refine vwq_loop (fun v => ∃ (j : Nat) (l : List Vl) (st : Sc) (t : Tk), j ≤ n ∧ l.length = j ∧ valsF b (n - j) l st = V ∧ 0 ≤ st.1 ∧ TW 3 t v.ω ∧ v.β p = some (scC tk b st) ∧ v.β b5 = some [.int .i64 2, .int .i64 i.1, .int .i64 0, .int .i64 0, .sl t (l.map Vl.d), .str ByteArray.empty, .sl .full []] ∧ v.β b4 = some [.int .i64 0, .int .i64 0, .int .i64 0, .int .i64 0, .sl .full [], .str ByteArray.empty, .sl .full []] ∧ v.σ 0 = .pb p 0 ∧ v.σ 4 = .pb b4 0 ∧ v.σ 5 = .pb b5 0 ∧ v.σ 31 = .int .i64 n ∧ v.σ 32 = .int .i64 j) (fun v => n - (ival (v.σ 32)).toNat) ⟨0, [], s2, .full, by omega, rfl, hV, gc, TW.full 3, by simp [Heap.set, N], by simp [Heap.set, N], by simp only [Heap.set, N, if_false]; exact e4, rfl, rfl, rfl, rfl, rfl⟩ ?_
      clear hV gc
      rintro σ β ω ⟨j, l, st, t, hj, hl, hV, gc, hw, ep', e5', e4', q0, q4, q5, q31, q32⟩
      dsimp only at hw ep' e5' e4' q0 q4 q5 q31 q32
      have hto := hw.ok
      have htg := hw.gone
      try simp only [go_sem, reduceIte, Nat.reduceEqDiff, Nat.reduceAdd, Nat.reduceSub, Nat.reduceMul, Nat.reduceLT, Nat.reduceLeDiff, Nat.reducePow, Int.reduceToNat, Int.reduceLT, Int.reduceLE, Int.reduceEq, Int.reduceNe, Int.reduceAdd, Int.reduceSub, Int.reduceMul, Int.reduceNeg, q0, q4, q5, q31, q32]
      refine cd_dec (fun g => ?_) (fun g => ?_)
      · have wj := wrap_i64 (x := (j : Int) + 1) (by omega) (by omega)
        obtain ⟨n', hn'⟩ : ∃ n', n - j = n' + 1 := ⟨n - j - 1, by omega⟩
        rw [hn', valsF] at hV
        have gv1 := oneF_ge (b := b) (m := 1) gc
        have gv2 := nxS_ge (b := b) gv1
        have gv3 := txtF_ge (b := b) gv2
        have hv := hv1 st gc
        have hw8 := oneF_lt hb 1 st
        obtain ⟨⟨x1, t1⟩, hx1⟩ : ∃ x, oneF b 1 st = x := ⟨_, rfl⟩
        rw [hx1] at hv hV gv1 gv2 gv3 hw8
        try simp only [go_sem, reduceIte, Nat.reduceEqDiff, Nat.reduceAdd, Nat.reduceSub, Nat.reduceMul, Nat.reduceLT, Nat.reduceLeDiff, Nat.reducePow, Int.reduceToNat, Int.reduceLT, Int.reduceLE, Int.reduceEq, Int.reduceNe, Int.reduceAdd, Int.reduceSub, Int.reduceMul, Int.reduceNeg, q0, q4, q5, q31, q32]
        refine cK_vp hv ep' ?_
        try simp only [go_sem, reduceIte, Nat.reduceEqDiff, Nat.reduceAdd, Nat.reduceSub, Nat.reduceMul, Nat.reduceLT, Nat.reduceLeDiff, Nat.reducePow, Int.reduceToNat, Int.reduceLT, Int.reduceLE, Int.reduceEq, Int.reduceNe, Int.reduceAdd, Int.reduceSub, Int.reduceMul, Int.reduceNeg, q0, q4, q5, q31, q32]
        generalize hβ1 : Heap.set β p _ = β1
        have ep' := hit_set hβ1
        have e4' := keep_ne hβ1 (by simp [N]) e4'
        have e5' := keep_ne hβ1 (by simp [N]) e5'
        clear hβ1
        have N := And.intro N trivial
        refine new_any fun b6 hb6 => ?_
        have N := And.intro N (box_ne hb6 ep')
        have N := And.intro N (box_ne hb6 e4')
        have N := And.intro N (box_ne hb6 e5')
        try simp only [go_sem, reduceIte, Nat.reduceEqDiff, Nat.reduceAdd, Nat.reduceSub, Nat.reduceMul, Nat.reduceLT, Nat.reduceLeDiff, Nat.reducePow, Int.reduceToNat, Int.reduceLT, Int.reduceLE, Int.reduceEq, Int.reduceNe, Int.reduceAdd, Int.reduceSub, Int.reduceMul, Int.reduceNeg, N]
        refine cK_vp (hnS t1) (by simp only [Heap.set, N, if_false]; exact ep') ?_
        try simp only [go_sem, reduceIte, Nat.reduceEqDiff, Nat.reduceAdd, Nat.reduceSub, Nat.reduceMul, Nat.reduceLT, Nat.reduceLeDiff, Nat.reducePow, Int.reduceToNat, Int.reduceLT, Int.reduceLE, Int.reduceEq, Int.reduceNe, Int.reduceAdd, Int.reduceSub, Int.reduceMul, Int.reduceNeg, N, q0, q5]
        refine cK_vp (htx (nxS b t1).2) (by simp [Heap.set, N]) ?_
        try simp only [go_sem, reduceIte, Nat.reduceEqDiff, Nat.reduceAdd, Nat.reduceSub, Nat.reduceMul, Nat.reduceLT, Nat.reduceLeDiff, Nat.reducePow, Int.reduceToNat, Int.reduceLT, Int.reduceLE, Int.reduceEq, Int.reduceNe, Int.reduceAdd, Int.reduceSub, Int.reduceMul, Int.reduceNeg, N, q0, q5, e5', hto, htg, wj]
        refine ⟨fun x hx => ?_, by simp only [List.length_map]; omega, fun t' _ => ⟨⟨j + 1, l ++ [⟨decide (x1 = 1), (nxS b t1).1, (txtF b (nxS b t1).2).1⟩], (txtF b (nxS b t1).2).2, .live t' 3, by omega, by simp [hl], ?_, gv3, TW.live 3 t', ?_, ?_, ?_, ?_⟩, by omega⟩⟩
        · obtain ⟨y, _, rfl⟩ := List.mem_map.1 hx
          rfl
        · rw [show n - (j + 1) = n' by omega]; exact hV
        · simp [Heap.set, N]
        · simp [Vl.d, Vl.cells]; omega
        · first | exact e4' | (simp only [Heap.set, N, if_false]; exact e4')
        · simp
      · try simp only [go_sem, reduceIte, Nat.reduceEqDiff, Nat.reduceAdd, Nat.reduceSub, Nat.reduceMul, Nat.reduceLT, Nat.reduceLeDiff, Nat.reducePow, Int.reduceToNat, Int.reduceLT, Int.reduceLE, Int.reduceEq, Int.reduceNe, Int.reduceAdd, Int.reduceSub, Int.reduceMul, Int.reduceNeg, q0, q4, q5, q31, q32, e5', e4']
        obtain rfl : j = n := by omega
        rw [Nat.sub_self, valsF] at hV
        subst hV
        refine finK_vp (by simp only [Heap.set, N, if_true, if_false]; rw [hR2]; exact ep') (by rw [hR2]; rfl)
    · try simp only [go_sem, reduceIte, Nat.reduceEqDiff, Nat.reduceAdd, Nat.reduceSub, Nat.reduceMul, Nat.reduceLT, Nat.reduceLeDiff, Nat.reducePow, Int.reduceToNat, Int.reduceLT, Int.reduceLE, Int.reduceEq, Int.reduceNe, Int.reduceAdd, Int.reduceSub, Int.reduceMul, Int.reduceNeg, N]
      refine cK_vp (htx i.2) (by simp [Heap.set, N]) ?_
      try simp only [go_sem, reduceIte, Nat.reduceEqDiff, Nat.reduceAdd, Nat.reduceSub, Nat.reduceMul, Nat.reduceLT, Nat.reduceLeDiff, Nat.reducePow, Int.reduceToNat, Int.reduceLT, Int.reduceLE, Int.reduceEq, Int.reduceNe, Int.reduceAdd, Int.reduceSub, Int.reduceMul, Int.reduceNeg, N, e4]
      refine finK_vp (by simp only [Heap.set, N, if_true, if_false]; rw [← hR']; rfl) (by rw [← hR']; rfl)
    · try simp only [go_sem, reduceIte, Nat.reduceEqDiff, Nat.reduceAdd, Nat.reduceSub, Nat.reduceMul, Nat.reduceLT, Nat.reduceLeDiff, Nat.reducePow, Int.reduceToNat, Int.reduceLT, Int.reduceLE, Int.reduceEq, Int.reduceNe, Int.reduceAdd, Int.reduceSub, Int.reduceMul, Int.reduceNeg, N, e4]
      refine finK_vp (by simp only [Heap.set, N, if_true, if_false]; rw [← hR']; rfl) (by rw [← hR']; rfl)
  · rw [if_neg ka] at hi
    subst hi
    try simp only [go_sem, reduceIte, Nat.reduceEqDiff, Nat.reduceAdd, Nat.reduceSub, Nat.reduceMul, Nat.reduceLT, Nat.reduceLeDiff, Nat.reducePow, Int.reduceToNat, Int.reduceLT, Int.reduceLE, Int.reduceEq, Int.reduceNe, Int.reduceAdd, Int.reduceSub, Int.reduceMul, Int.reduceNeg, N, ka, e5]
    by_cases h567 : o = 5 ∨ o = 6 ∨ o = 7
    · have gc := cntF_ge (b := b) gi
      have hc16 := cntF_le (b := b) (s := s1)
      have hce := cntF_err (b := b) (s := s1)
      have hc1 := hct s1
      obtain ⟨c, hc⟩ : ∃ c, cntF b s1 = c := ⟨_, rfl⟩
      dsimp only at gc
      rw [hc] at gc hc16 hc1 hce
      obtain ⟨n, s2⟩ := c
      dsimp only at gc hc16 hc1 hce
      obtain ⟨s3, hs3⟩ : ∃ s3, failS s2 5 (decide (o = 7) && decide (n ≠ 1)) = s3 := ⟨_, rfl⟩
      obtain ⟨s4, hs4⟩ : ∃ s4, failS s3 2 (decide (0 < n) && decide (m < 2)) = s4 := ⟨_, rfl⟩
      have hf1 := hfl s2 5 (decide (o = 7) && decide (n ≠ 1))
      have hf2 := hfl s3 2 (decide (0 < n) && decide (m < 2))
      rw [hs3] at hf1
      rw [hs4] at hf2
      have g3 : 0 ≤ s3.1 := by rw [← hs3]; exact failS_ge gc
      have g4 : 0 ≤ s4.1 := by rw [← hs4]; exact failS_ge g3
      obtain ⟨V, hV⟩ : ∃ V, kidsF rd n [] s4 = V := ⟨_, rfl⟩
      have hR2 : R = (.mk o 0 0 0 [] ByteArray.empty V.1, V.2) := by
        rw [← hR', ← hV, ← hs4, ← hs3]
        have d1 : ¬o = 1 := fun h => ka (by rw [h]; rfl)
        have d2 : ¬o = 2 := fun h => ka (by rw [h]; rfl)
        have d3 : ¬o = 3 := fun h => ka (by rw [h]; rfl)
        simp only [if_neg d1, if_neg d2, if_neg d3, if_pos h567, hc]
      clear hR' hR
      have hm2 : 0 < n → m < 2 → s4.2 ≠ 0 := by
        intro h1 h2 h3
        rw [← hs4] at h3
        unfold failS at h3
        split at h3
        · cases h3
        · rename_i h; exact h ⟨h3, by simp [h1, h2]⟩
      have e2 : decide (0 < (n : Int) ∧ (m : Int) < 2) = (decide (0 < n) && decide (m < 2)) := by
        rw [← Bool.decide_and]; exact decide_eq_decide.2 (by omega)
      have e7 : decide ((n : Int) ≠ 1) = (decide ((7 : Nat) = 7) && decide (n ≠ 1)) := by
        rw [← Bool.decide_and]; exact decide_eq_decide.2 (by omega)
      rcases h567 with rfl | rfl | rfl
      · try simp only [go_sem, reduceIte, Nat.reduceEqDiff, Nat.reduceAdd, Nat.reduceSub, Nat.reduceMul, Nat.reduceLT, Nat.reduceLeDiff, Nat.reducePow, Int.reduceToNat, Int.reduceLT, Int.reduceLE, Int.reduceEq, Int.reduceNe, Int.reduceAdd, Int.reduceSub, Int.reduceMul, Int.reduceNeg, N]
        refine cK_vp hc1 ep ?_
        try simp only [go_sem, reduceIte, Nat.reduceEqDiff, Nat.reduceAdd, Nat.reduceSub, Nat.reduceMul, Nat.reduceLT, Nat.reduceLeDiff, Nat.reducePow, Int.reduceToNat, Int.reduceLT, Int.reduceLE, Int.reduceEq, Int.reduceNe, Int.reduceAdd, Int.reduceSub, Int.reduceMul, Int.reduceNeg, N, e5]
        refine cK_vp hf1 (hit_set rfl) ?_
        try simp only [go_sem, reduceIte, Nat.reduceEqDiff, Nat.reduceAdd, Nat.reduceSub, Nat.reduceMul, Nat.reduceLT, Nat.reduceLeDiff, Nat.reducePow, Int.reduceToNat, Int.reduceLT, Int.reduceLE, Int.reduceEq, Int.reduceNe, Int.reduceAdd, Int.reduceSub, Int.reduceMul, Int.reduceNeg, N]
        rw [e2]
        refine cK_vp hf2 (hit_set rfl) ?_
        try simp only [go_sem, reduceIte, Nat.reduceEqDiff, Nat.reduceAdd, Nat.reduceSub, Nat.reduceMul, Nat.reduceLT, Nat.reduceLeDiff, Nat.reducePow, Int.reduceToNat, Int.reduceLT, Int.reduceLE, Int.reduceEq, Int.reduceNe, Int.reduceAdd, Int.reduceSub, Int.reduceMul, Int.reduceNeg, N]
        refine vwq_loop (fun v => ∃ (j : Nat) (l : List Pr) (st : Sc) (t : Tk), j ≤ n ∧ l.length = j ∧ kidsF rd (n - j) l st = V ∧ 0 ≤ st.1 ∧ (j < n → m < 2 → st.2 ≠ 0) ∧ TW 7 t v.ω ∧ v.β p = some (scC tk b st) ∧ v.β b5 = some [.int .i64 5, .int .i64 0, .int .i64 0, .int .i64 0, .sl .full [], .str ByteArray.empty, .sl t (l.map Pr.d)] ∧ v.β b4 = some [.int .i64 0, .int .i64 0, .int .i64 0, .int .i64 0, .sl .full [], .str ByteArray.empty, .sl .full []] ∧ v.σ 0 = .pb p 0 ∧ v.σ 1 = .int .i64 m ∧ v.σ 4 = .pb b4 0 ∧ v.σ 5 = .pb b5 0 ∧ v.σ 79 = .int .i64 n ∧ v.σ 80 = .int .i64 j) (fun v => n - (ival (v.σ 80)).toNat) ⟨0, [], s4, .full, by omega, rfl, hV, g4, (fun h => hm2 h), TW.full 7, by simp [Heap.set], by simp only [Heap.set, N, if_false]; exact e5, by simp only [Heap.set, N, if_false]; exact e4, rfl, rfl, rfl, rfl, rfl, rfl⟩ ?_
        clear hV hm2
        rintro σ β ω ⟨j, l, st, t, hj, hl, hV, gc, hm2, hw, ep', e5', e4', q0, q1, q4, q5, q79, q80⟩
        dsimp only at hw ep' e5' e4' q0 q1 q4 q5 q79 q80
        have hto := hw.ok
        have htg := hw.gone
        try simp only [go_sem, reduceIte, Nat.reduceEqDiff, Nat.reduceAdd, Nat.reduceSub, Nat.reduceMul, Nat.reduceLT, Nat.reduceLeDiff, Nat.reducePow, Int.reduceToNat, Int.reduceLT, Int.reduceLE, Int.reduceEq, Int.reduceNe, Int.reduceAdd, Int.reduceSub, Int.reduceMul, Int.reduceNeg, q0, q1, q4, q5, q79, q80]
        refine cd_dec (fun g => ?_) (fun g => ?_)
        · have wj := wrap_i64 (x := (j : Int) + 1) (by omega) (by omega)
          have wm := wrap_i64 (x := (m : Int) - 1) (by omega) (by omega)
          obtain ⟨n', hn'⟩ : ∃ n', n - j = n' + 1 := ⟨n - j - 1, by omega⟩
          rw [hn', kidsF] at hV
          try simp only [go_sem, reduceIte, Nat.reduceEqDiff, Nat.reduceAdd, Nat.reduceSub, Nat.reduceMul, Nat.reduceLT, Nat.reduceLeDiff, Nat.reducePow, Int.reduceToNat, Int.reduceLT, Int.reduceLE, Int.reduceEq, Int.reduceNe, Int.reduceAdd, Int.reduceSub, Int.reduceMul, Int.reduceNeg, q0, q1, q4, q5, q79, q80, ep', scC]
          refine cd_dec (fun k => ?_) (fun k => ?_)
          · rw [if_neg k] at hV
            try simp only [go_sem, reduceIte, Nat.reduceEqDiff, Nat.reduceAdd, Nat.reduceSub, Nat.reduceMul, Nat.reduceLT, Nat.reduceLeDiff, Nat.reducePow, Int.reduceToNat, Int.reduceLT, Int.reduceLE, Int.reduceEq, Int.reduceNe, Int.reduceAdd, Int.reduceSub, Int.reduceMul, Int.reduceNeg, q0, q1, q4, q5, q79, q80, e5', e4']
            subst hV
            refine finK_vp (by simp only [Heap.set, N, if_true, if_false]; rw [hR2]; exact ep') (by rw [hR2]; rfl)
          · have k' : st.2 = 0 := Decidable.not_not.1 k
            rw [if_pos k'] at hV
            have hm : 2 ≤ m := Nat.le_of_not_lt fun h => hm2 (by omega) h k'
            obtain ⟨hr1, hr2⟩ := hrd hm st gc
            try simp only [go_sem, reduceIte, Nat.reduceEqDiff, Nat.reduceAdd, Nat.reduceSub, Nat.reduceMul, Nat.reduceLT, Nat.reduceLeDiff, Nat.reducePow, Int.reduceToNat, Int.reduceLT, Int.reduceLE, Int.reduceEq, Int.reduceNe, Int.reduceAdd, Int.reduceSub, Int.reduceMul, Int.reduceNeg, q0, q1, q4, q5, q79, q80, e5', wm]
            refine cE_vp hr1 ep' (fun b' h => by simp [rdAdd] at h; rw [h]; simp [N]) ?_
            try simp only [go_sem, reduceIte, Nat.reduceEqDiff, Nat.reduceAdd, Nat.reduceSub, Nat.reduceMul, Nat.reduceLT, Nat.reduceLeDiff, Nat.reducePow, Int.reduceToNat, Int.reduceLT, Int.reduceLE, Int.reduceEq, Int.reduceNe, Int.reduceAdd, Int.reduceSub, Int.reduceMul, Int.reduceNeg, N, q0, q5, q79, q80, e5', hto, htg, wj]
            refine ⟨fun x hx => ?_, by simp only [List.length_map]; omega, fun t' _ => ⟨by simp [rdAdd], ⟨j + 1, l ++ [(rd st).1], (rd st).2, .live t' 7, by omega, by simp [hl], ?_, hr2, fun _ h => absurd h (by omega), TW.live 7 t', ?_, ?_, ?_, ?_⟩, by omega⟩⟩
            · obtain ⟨y, _, rfl⟩ := List.mem_map.1 hx
              cases y; rfl
            · rw [show n - (j + 1) = n' by omega]; exact hV
            · simp [Heap.set, N, scC]
            · rw [List.map_append, List.map_cons, List.map_nil, Pr.d_eq]
            · first | exact e4' | (simp only [Heap.set, N, if_false]; exact e4')
            · simp
        · try simp only [go_sem, reduceIte, Nat.reduceEqDiff, Nat.reduceAdd, Nat.reduceSub, Nat.reduceMul, Nat.reduceLT, Nat.reduceLeDiff, Nat.reducePow, Int.reduceToNat, Int.reduceLT, Int.reduceLE, Int.reduceEq, Int.reduceNe, Int.reduceAdd, Int.reduceSub, Int.reduceMul, Int.reduceNeg, q0, q1, q4, q5, q79, q80, e5', e4']
          obtain rfl : j = n := by omega
          rw [Nat.sub_self, kidsF] at hV
          subst hV
          refine finK_vp (by simp only [Heap.set, N, if_true, if_false]; rw [hR2]; exact ep') (by rw [hR2]; rfl)
      · try simp only [go_sem, reduceIte, Nat.reduceEqDiff, Nat.reduceAdd, Nat.reduceSub, Nat.reduceMul, Nat.reduceLT, Nat.reduceLeDiff, Nat.reducePow, Int.reduceToNat, Int.reduceLT, Int.reduceLE, Int.reduceEq, Int.reduceNe, Int.reduceAdd, Int.reduceSub, Int.reduceMul, Int.reduceNeg, N]
        refine cK_vp hc1 ep ?_
        try simp only [go_sem, reduceIte, Nat.reduceEqDiff, Nat.reduceAdd, Nat.reduceSub, Nat.reduceMul, Nat.reduceLT, Nat.reduceLeDiff, Nat.reducePow, Int.reduceToNat, Int.reduceLT, Int.reduceLE, Int.reduceEq, Int.reduceNe, Int.reduceAdd, Int.reduceSub, Int.reduceMul, Int.reduceNeg, N, e5]
        refine cK_vp hf1 (hit_set rfl) ?_
        try simp only [go_sem, reduceIte, Nat.reduceEqDiff, Nat.reduceAdd, Nat.reduceSub, Nat.reduceMul, Nat.reduceLT, Nat.reduceLeDiff, Nat.reducePow, Int.reduceToNat, Int.reduceLT, Int.reduceLE, Int.reduceEq, Int.reduceNe, Int.reduceAdd, Int.reduceSub, Int.reduceMul, Int.reduceNeg, N]
        rw [e2]
        refine cK_vp hf2 (hit_set rfl) ?_
        try simp only [go_sem, reduceIte, Nat.reduceEqDiff, Nat.reduceAdd, Nat.reduceSub, Nat.reduceMul, Nat.reduceLT, Nat.reduceLeDiff, Nat.reducePow, Int.reduceToNat, Int.reduceLT, Int.reduceLE, Int.reduceEq, Int.reduceNe, Int.reduceAdd, Int.reduceSub, Int.reduceMul, Int.reduceNeg, N]
        refine vwq_loop (fun v => ∃ (j : Nat) (l : List Pr) (st : Sc) (t : Tk), j ≤ n ∧ l.length = j ∧ kidsF rd (n - j) l st = V ∧ 0 ≤ st.1 ∧ (j < n → m < 2 → st.2 ≠ 0) ∧ TW 7 t v.ω ∧ v.β p = some (scC tk b st) ∧ v.β b5 = some [.int .i64 6, .int .i64 0, .int .i64 0, .int .i64 0, .sl .full [], .str ByteArray.empty, .sl t (l.map Pr.d)] ∧ v.β b4 = some [.int .i64 0, .int .i64 0, .int .i64 0, .int .i64 0, .sl .full [], .str ByteArray.empty, .sl .full []] ∧ v.σ 0 = .pb p 0 ∧ v.σ 1 = .int .i64 m ∧ v.σ 4 = .pb b4 0 ∧ v.σ 5 = .pb b5 0 ∧ v.σ 79 = .int .i64 n ∧ v.σ 80 = .int .i64 j) (fun v => n - (ival (v.σ 80)).toNat) ⟨0, [], s4, .full, by omega, rfl, hV, g4, (fun h => hm2 h), TW.full 7, by simp [Heap.set], by simp only [Heap.set, N, if_false]; exact e5, by simp only [Heap.set, N, if_false]; exact e4, rfl, rfl, rfl, rfl, rfl, rfl⟩ ?_
        clear hV hm2
        rintro σ β ω ⟨j, l, st, t, hj, hl, hV, gc, hm2, hw, ep', e5', e4', q0, q1, q4, q5, q79, q80⟩
        dsimp only at hw ep' e5' e4' q0 q1 q4 q5 q79 q80
        have hto := hw.ok
        have htg := hw.gone
        try simp only [go_sem, reduceIte, Nat.reduceEqDiff, Nat.reduceAdd, Nat.reduceSub, Nat.reduceMul, Nat.reduceLT, Nat.reduceLeDiff, Nat.reducePow, Int.reduceToNat, Int.reduceLT, Int.reduceLE, Int.reduceEq, Int.reduceNe, Int.reduceAdd, Int.reduceSub, Int.reduceMul, Int.reduceNeg, q0, q1, q4, q5, q79, q80]
        refine cd_dec (fun g => ?_) (fun g => ?_)
        · have wj := wrap_i64 (x := (j : Int) + 1) (by omega) (by omega)
          have wm := wrap_i64 (x := (m : Int) - 1) (by omega) (by omega)
          obtain ⟨n', hn'⟩ : ∃ n', n - j = n' + 1 := ⟨n - j - 1, by omega⟩
          rw [hn', kidsF] at hV
          try simp only [go_sem, reduceIte, Nat.reduceEqDiff, Nat.reduceAdd, Nat.reduceSub, Nat.reduceMul, Nat.reduceLT, Nat.reduceLeDiff, Nat.reducePow, Int.reduceToNat, Int.reduceLT, Int.reduceLE, Int.reduceEq, Int.reduceNe, Int.reduceAdd, Int.reduceSub, Int.reduceMul, Int.reduceNeg, q0, q1, q4, q5, q79, q80, ep', scC]
          refine cd_dec (fun k => ?_) (fun k => ?_)
          · rw [if_neg k] at hV
            try simp only [go_sem, reduceIte, Nat.reduceEqDiff, Nat.reduceAdd, Nat.reduceSub, Nat.reduceMul, Nat.reduceLT, Nat.reduceLeDiff, Nat.reducePow, Int.reduceToNat, Int.reduceLT, Int.reduceLE, Int.reduceEq, Int.reduceNe, Int.reduceAdd, Int.reduceSub, Int.reduceMul, Int.reduceNeg, q0, q1, q4, q5, q79, q80, e5', e4']
            subst hV
            refine finK_vp (by simp only [Heap.set, N, if_true, if_false]; rw [hR2]; exact ep') (by rw [hR2]; rfl)
          · have k' : st.2 = 0 := Decidable.not_not.1 k
            rw [if_pos k'] at hV
            have hm : 2 ≤ m := Nat.le_of_not_lt fun h => hm2 (by omega) h k'
            obtain ⟨hr1, hr2⟩ := hrd hm st gc
            try simp only [go_sem, reduceIte, Nat.reduceEqDiff, Nat.reduceAdd, Nat.reduceSub, Nat.reduceMul, Nat.reduceLT, Nat.reduceLeDiff, Nat.reducePow, Int.reduceToNat, Int.reduceLT, Int.reduceLE, Int.reduceEq, Int.reduceNe, Int.reduceAdd, Int.reduceSub, Int.reduceMul, Int.reduceNeg, q0, q1, q4, q5, q79, q80, e5', wm]
            refine cE_vp hr1 ep' (fun b' h => by simp [rdAdd] at h; rw [h]; simp [N]) ?_
            try simp only [go_sem, reduceIte, Nat.reduceEqDiff, Nat.reduceAdd, Nat.reduceSub, Nat.reduceMul, Nat.reduceLT, Nat.reduceLeDiff, Nat.reducePow, Int.reduceToNat, Int.reduceLT, Int.reduceLE, Int.reduceEq, Int.reduceNe, Int.reduceAdd, Int.reduceSub, Int.reduceMul, Int.reduceNeg, N, q0, q5, q79, q80, e5', hto, htg, wj]
            refine ⟨fun x hx => ?_, by simp only [List.length_map]; omega, fun t' _ => ⟨by simp [rdAdd], ⟨j + 1, l ++ [(rd st).1], (rd st).2, .live t' 7, by omega, by simp [hl], ?_, hr2, fun _ h => absurd h (by omega), TW.live 7 t', ?_, ?_, ?_, ?_⟩, by omega⟩⟩
            · obtain ⟨y, _, rfl⟩ := List.mem_map.1 hx
              cases y; rfl
            · rw [show n - (j + 1) = n' by omega]; exact hV
            · simp [Heap.set, N, scC]
            · rw [List.map_append, List.map_cons, List.map_nil, Pr.d_eq]
            · first | exact e4' | (simp only [Heap.set, N, if_false]; exact e4')
            · simp
        · try simp only [go_sem, reduceIte, Nat.reduceEqDiff, Nat.reduceAdd, Nat.reduceSub, Nat.reduceMul, Nat.reduceLT, Nat.reduceLeDiff, Nat.reducePow, Int.reduceToNat, Int.reduceLT, Int.reduceLE, Int.reduceEq, Int.reduceNe, Int.reduceAdd, Int.reduceSub, Int.reduceMul, Int.reduceNeg, q0, q1, q4, q5, q79, q80, e5', e4']
          obtain rfl : j = n := by omega
          rw [Nat.sub_self, kidsF] at hV
          subst hV
          refine finK_vp (by simp only [Heap.set, N, if_true, if_false]; rw [hR2]; exact ep') (by rw [hR2]; rfl)
      · try simp only [go_sem, reduceIte, Nat.reduceEqDiff, Nat.reduceAdd, Nat.reduceSub, Nat.reduceMul, Nat.reduceLT, Nat.reduceLeDiff, Nat.reducePow, Int.reduceToNat, Int.reduceLT, Int.reduceLE, Int.reduceEq, Int.reduceNe, Int.reduceAdd, Int.reduceSub, Int.reduceMul, Int.reduceNeg, N]
        refine cK_vp hc1 ep ?_
        try simp only [go_sem, reduceIte, Nat.reduceEqDiff, Nat.reduceAdd, Nat.reduceSub, Nat.reduceMul, Nat.reduceLT, Nat.reduceLeDiff, Nat.reducePow, Int.reduceToNat, Int.reduceLT, Int.reduceLE, Int.reduceEq, Int.reduceNe, Int.reduceAdd, Int.reduceSub, Int.reduceMul, Int.reduceNeg, N, e5]
        rw [e7]
        refine cK_vp hf1 (hit_set rfl) ?_
        try simp only [go_sem, reduceIte, Nat.reduceEqDiff, Nat.reduceAdd, Nat.reduceSub, Nat.reduceMul, Nat.reduceLT, Nat.reduceLeDiff, Nat.reducePow, Int.reduceToNat, Int.reduceLT, Int.reduceLE, Int.reduceEq, Int.reduceNe, Int.reduceAdd, Int.reduceSub, Int.reduceMul, Int.reduceNeg, N]
        rw [e2]
        refine cK_vp hf2 (hit_set rfl) ?_
        try simp only [go_sem, reduceIte, Nat.reduceEqDiff, Nat.reduceAdd, Nat.reduceSub, Nat.reduceMul, Nat.reduceLT, Nat.reduceLeDiff, Nat.reducePow, Int.reduceToNat, Int.reduceLT, Int.reduceLE, Int.reduceEq, Int.reduceNe, Int.reduceAdd, Int.reduceSub, Int.reduceMul, Int.reduceNeg, N]
        refine vwq_loop (fun v => ∃ (j : Nat) (l : List Pr) (st : Sc) (t : Tk), j ≤ n ∧ l.length = j ∧ kidsF rd (n - j) l st = V ∧ 0 ≤ st.1 ∧ (j < n → m < 2 → st.2 ≠ 0) ∧ TW 7 t v.ω ∧ v.β p = some (scC tk b st) ∧ v.β b5 = some [.int .i64 7, .int .i64 0, .int .i64 0, .int .i64 0, .sl .full [], .str ByteArray.empty, .sl t (l.map Pr.d)] ∧ v.β b4 = some [.int .i64 0, .int .i64 0, .int .i64 0, .int .i64 0, .sl .full [], .str ByteArray.empty, .sl .full []] ∧ v.σ 0 = .pb p 0 ∧ v.σ 1 = .int .i64 m ∧ v.σ 4 = .pb b4 0 ∧ v.σ 5 = .pb b5 0 ∧ v.σ 79 = .int .i64 n ∧ v.σ 80 = .int .i64 j) (fun v => n - (ival (v.σ 80)).toNat) ⟨0, [], s4, .full, by omega, rfl, hV, g4, (fun h => hm2 h), TW.full 7, by simp [Heap.set], by simp only [Heap.set, N, if_false]; exact e5, by simp only [Heap.set, N, if_false]; exact e4, rfl, rfl, rfl, rfl, rfl, rfl⟩ ?_
        clear hV hm2
        rintro σ β ω ⟨j, l, st, t, hj, hl, hV, gc, hm2, hw, ep', e5', e4', q0, q1, q4, q5, q79, q80⟩
        dsimp only at hw ep' e5' e4' q0 q1 q4 q5 q79 q80
        have hto := hw.ok
        have htg := hw.gone
        try simp only [go_sem, reduceIte, Nat.reduceEqDiff, Nat.reduceAdd, Nat.reduceSub, Nat.reduceMul, Nat.reduceLT, Nat.reduceLeDiff, Nat.reducePow, Int.reduceToNat, Int.reduceLT, Int.reduceLE, Int.reduceEq, Int.reduceNe, Int.reduceAdd, Int.reduceSub, Int.reduceMul, Int.reduceNeg, q0, q1, q4, q5, q79, q80]
        refine cd_dec (fun g => ?_) (fun g => ?_)
        · have wj := wrap_i64 (x := (j : Int) + 1) (by omega) (by omega)
          have wm := wrap_i64 (x := (m : Int) - 1) (by omega) (by omega)
          obtain ⟨n', hn'⟩ : ∃ n', n - j = n' + 1 := ⟨n - j - 1, by omega⟩
          rw [hn', kidsF] at hV
          try simp only [go_sem, reduceIte, Nat.reduceEqDiff, Nat.reduceAdd, Nat.reduceSub, Nat.reduceMul, Nat.reduceLT, Nat.reduceLeDiff, Nat.reducePow, Int.reduceToNat, Int.reduceLT, Int.reduceLE, Int.reduceEq, Int.reduceNe, Int.reduceAdd, Int.reduceSub, Int.reduceMul, Int.reduceNeg, q0, q1, q4, q5, q79, q80, ep', scC]
          refine cd_dec (fun k => ?_) (fun k => ?_)
          · rw [if_neg k] at hV
            try simp only [go_sem, reduceIte, Nat.reduceEqDiff, Nat.reduceAdd, Nat.reduceSub, Nat.reduceMul, Nat.reduceLT, Nat.reduceLeDiff, Nat.reducePow, Int.reduceToNat, Int.reduceLT, Int.reduceLE, Int.reduceEq, Int.reduceNe, Int.reduceAdd, Int.reduceSub, Int.reduceMul, Int.reduceNeg, q0, q1, q4, q5, q79, q80, e5', e4']
            subst hV
            refine finK_vp (by simp only [Heap.set, N, if_true, if_false]; rw [hR2]; exact ep') (by rw [hR2]; rfl)
          · have k' : st.2 = 0 := Decidable.not_not.1 k
            rw [if_pos k'] at hV
            have hm : 2 ≤ m := Nat.le_of_not_lt fun h => hm2 (by omega) h k'
            obtain ⟨hr1, hr2⟩ := hrd hm st gc
            try simp only [go_sem, reduceIte, Nat.reduceEqDiff, Nat.reduceAdd, Nat.reduceSub, Nat.reduceMul, Nat.reduceLT, Nat.reduceLeDiff, Nat.reducePow, Int.reduceToNat, Int.reduceLT, Int.reduceLE, Int.reduceEq, Int.reduceNe, Int.reduceAdd, Int.reduceSub, Int.reduceMul, Int.reduceNeg, q0, q1, q4, q5, q79, q80, e5', wm]
            refine cE_vp hr1 ep' (fun b' h => by simp [rdAdd] at h; rw [h]; simp [N]) ?_
            try simp only [go_sem, reduceIte, Nat.reduceEqDiff, Nat.reduceAdd, Nat.reduceSub, Nat.reduceMul, Nat.reduceLT, Nat.reduceLeDiff, Nat.reducePow, Int.reduceToNat, Int.reduceLT, Int.reduceLE, Int.reduceEq, Int.reduceNe, Int.reduceAdd, Int.reduceSub, Int.reduceMul, Int.reduceNeg, N, q0, q5, q79, q80, e5', hto, htg, wj]
            refine ⟨fun x hx => ?_, by simp only [List.length_map]; omega, fun t' _ => ⟨by simp [rdAdd], ⟨j + 1, l ++ [(rd st).1], (rd st).2, .live t' 7, by omega, by simp [hl], ?_, hr2, fun _ h => absurd h (by omega), TW.live 7 t', ?_, ?_, ?_, ?_⟩, by omega⟩⟩
            · obtain ⟨y, _, rfl⟩ := List.mem_map.1 hx
              cases y; rfl
            · rw [show n - (j + 1) = n' by omega]; exact hV
            · simp [Heap.set, N, scC]
            · rw [List.map_append, List.map_cons, List.map_nil, Pr.d_eq]
            · first | exact e4' | (simp only [Heap.set, N, if_false]; exact e4')
            · simp
        · try simp only [go_sem, reduceIte, Nat.reduceEqDiff, Nat.reduceAdd, Nat.reduceSub, Nat.reduceMul, Nat.reduceLT, Nat.reduceLeDiff, Nat.reducePow, Int.reduceToNat, Int.reduceLT, Int.reduceLE, Int.reduceEq, Int.reduceNe, Int.reduceAdd, Int.reduceSub, Int.reduceMul, Int.reduceNeg, q0, q1, q4, q5, q79, q80, e5', e4']
          obtain rfl : j = n := by omega
          rw [Nat.sub_self, kidsF] at hV
          subst hV
          refine finK_vp (by simp only [Heap.set, N, if_true, if_false]; rw [hR2]; exact ep') (by rw [hR2]; rfl)
    · have c1 := eq_false (fun h : (o : Int) = 1 => ka (by rw [h]; rfl))
      have c2 := eq_false (fun h : (o : Int) = 2 => ka (by rw [h]; rfl))
      have c3 := eq_false (fun h : (o : Int) = 3 => ka (by rw [h]; rfl))
      have c5 := eq_false (show ¬(o : Int) = 5 by omega)
      have c6 := eq_false (show ¬(o : Int) = 6 by omega)
      have c7 := eq_false (show ¬(o : Int) = 7 by omega)
      try simp only [go_sem, reduceIte, Nat.reduceEqDiff, Nat.reduceAdd, Nat.reduceSub, Nat.reduceMul, Nat.reduceLT, Nat.reduceLeDiff, Nat.reducePow, Int.reduceToNat, Int.reduceLT, Int.reduceLE, Int.reduceEq, Int.reduceNe, Int.reduceAdd, Int.reduceSub, Int.reduceMul, Int.reduceNeg, N, c1, c2, c3, c5, c6, c7, e4, e5, decide_false]
      have ka' : isAt (o : Int) = false := by simpa using ka
      have hR2 : R = (.mk o 0 0 0 [] ByteArray.empty [], s1) := by
        rw [← hR']
        have d1 : ¬o = 1 := fun h => ka (by rw [h]; rfl)
        have d2 : ¬o = 2 := fun h => ka (by rw [h]; rfl)
        have d3 : ¬o = 3 := fun h => ka (by rw [h]; rfl)
        simp only [if_neg d1, if_neg d2, if_neg d3, if_neg h567]
      refine finK_vp (by simp only [Heap.set, N, if_true, if_false]; rw [hR2]; exact ep) (by rw [hR2]; rfl)
theorem predG_ge {b : List Nat} {m : Nat} {rd : Sc → Pr × Sc} (hrd : ∀ s, 0 ≤ s.1 → 0 ≤ (rd s).2.1) {s : Sc} (hs : 0 ≤ s.1) : 0 ≤ (predG b m rd s).2.1 := by
  have hv : ∀ n l (s : Sc), 0 ≤ s.1 → 0 ≤ (valsF b n l s).2.1 := by
    intro n; induction n with
    | zero => intro l s h; exact h
    | succ n ih => intro l s h; exact ih _ _ (txtF_ge (nxS_ge (oneF_ge h)))
  have hk : ∀ n l (s : Sc), 0 ≤ s.1 → 0 ≤ (kidsF rd n l s).2.1 := by
    intro n; induction n with
    | zero => intro l s h; exact h
    | succ n ih =>
      intro l s h; rw [kidsF]; split
      · exact ih _ _ (hrd _ h)
      · exact h
  have g1 := oneF_ge (b := b) (m := 7) hs
  have g2 : 0 ≤ (if isAt (oneF b 7 s).1 then nxS b (oneF b 7 s).2 else (0, (oneF b 7 s).2)).2.1 := by
    split
    · exact nxS_ge g1
    · exact g1
  unfold predG
  dsimp only
  split
  · exact nxS_ge (nxS_ge g2)
  · split
    · exact hv _ _ _ (cntF_ge g2)
    · split
      · exact txtF_ge g2
      · split
        · exact hk _ _ _ (failS_ge (failS_ge (cntF_ge g2)))
        · exact g2
theorem predF_ge {b : List Nat} : ∀ {m : Nat} {s : Sc}, 0 ≤ s.1 → 0 ≤ (predF b m s).2.1
  | 0, _, h => predG_ge (fun _ h => h) h
  | _ + 1, _, h => predG_ge (fun _ h => predF_ge h) h
theorem pred_ok (tk : Tk) (b : List Nat) (hb : Byt b) (hbl : b.length ≤ 1099511627776) : ∀ (m : Nat), m ≤ 100 → ∀ (s : Sc), 0 ≤ s.1 →
    VP P G 34 (fun p => [.pb p 0, .int .i64 m]) (scC tk b s) (.agg (predF b m s).1.cells) (scC tk b (predF b m s).2)
  | 0, hm, s, hs => pred_step tk b hb hbl 0 hm _ (fun h => by omega) s hs
  | m + 1, hm, s, hs => pred_step tk b hb hbl (m + 1) hm _ (fun _ s hs => by
      have := pred_ok tk b hb hbl m (by omega) s hs
      rw [show ((m + 1 : Nat) : Int) - 1 = (m : Int) by omega]
      exact ⟨this, predF_ge hs⟩) s hs
/-- What Decode answers. -/
def pDecF (b : List Nat) (at_ : Int) : Pr × Int × Int :=
  if at_ < 0 ∨ (b.length : Int) < at_ then (Pr.nul, 0, 1)
  else let r := predF b 8 (at_, 0); if r.2.2 = 0 then (r.1, r.2.1, 0) else (Pr.nul, 0, r.2.2)
theorem pDecode_ok (tk : Tk) (b : List Nat) (at_ : Int) (hb : Byt b) (hbl : b.length ≤ 1099511627776) :
    VN P G 14 [.sl tk (bs b), .int .i64 at_] (.tup [.agg (pDecF b at_).1.cells, .int .i64 (pDecF b at_).2.1, .int .i64 (pDecF b at_).2.2]) := by
  unfold VN
  refine VC.ofc (fun | 6 => [(0, []), (1, []), (2, []), (3, []), (4, [5]), (5, []), (6, []), (7, [])] | 7 => [(0, []), (1, []), (2, []), (3, []), (4, [5]), (5, []), (6, []), (7, [])] | 99999999 => [(0, [0, 1, 4, 5, 6, 7, 8, 16, 28])] | _ => []) [.cell 4 27, .tmp 5, .tmp 6] mixed Try.func14 rfl rfl rfl rfl (by decide +kernel) (by simp) ?_
  have el : (bs b).length = b.length := bs_length b
  simp only [go_sem, reduceIte, Nat.reduceEqDiff, Nat.reduceAdd, Nat.reduceSub, Nat.reduceMul, Nat.reduceLT, Nat.reduceLeDiff, Nat.reducePow, Int.reduceToNat, Int.reduceLT, Int.reduceLE, Int.reduceEq, Int.reduceNe, Int.reduceAdd, Int.reduceSub, Int.reduceMul, Int.reduceNeg]
  intro b4
  refine cd_dec (fun k => ?_) (fun k => ?_)
  · have hF : pDecF b at_ = (Pr.nul, 0, 1) := by rw [pDecF, if_pos k]
    try simp only [go_sem, reduceIte, Nat.reduceEqDiff, Nat.reduceAdd, Nat.reduceSub, Nat.reduceMul, Nat.reduceLT, Nat.reduceLeDiff, Nat.reducePow, Int.reduceToNat, Int.reduceLT, Int.reduceLE, Int.reduceEq, Int.reduceNe, Int.reduceAdd, Int.reduceSub, Int.reduceMul, Int.reduceNeg, el]
    rw [hF]
    exact finK_drop ⟨rfl, rfl, rfl⟩
  · obtain ⟨r, hr⟩ : ∃ r, predF b 8 (at_, 0) = r := ⟨_, rfl⟩
    have h8 := pred_ok (G := G) tk b hb hbl 8 (by omega) (at_, 0) (by dsimp only; omega)
    rw [hr] at h8
    simp only [go_sem, reduceIte, Nat.reduceEqDiff, Nat.reduceAdd, Nat.reduceSub, Nat.reduceMul, Nat.reduceLT, Nat.reduceLeDiff, Nat.reducePow, Int.reduceToNat, Int.reduceLT, Int.reduceLE, Int.reduceEq, Int.reduceNe, Int.reduceAdd, Int.reduceSub, Int.reduceMul, Int.reduceNeg]
    refine new_any fun b5 hb5 => ?_
    have N := box_ne (a := b4) hb5 (hit_set rfl)
    try simp only [go_sem, reduceIte, Nat.reduceEqDiff, Nat.reduceAdd, Nat.reduceSub, Nat.reduceMul, Nat.reduceLT, Nat.reduceLeDiff, Nat.reducePow, Int.reduceToNat, Int.reduceLT, Int.reduceLE, Int.reduceEq, Int.reduceNe, Int.reduceAdd, Int.reduceSub, Int.reduceMul, Int.reduceNeg, N]
    refine cK_vp h8 (hit_set rfl) ?_
    have N := And.intro N trivial
    try simp only [go_sem, reduceIte, Nat.reduceEqDiff, Nat.reduceAdd, Nat.reduceSub, Nat.reduceMul, Nat.reduceLT, Nat.reduceLeDiff, Nat.reducePow, Int.reduceToNat, Int.reduceLT, Int.reduceLE, Int.reduceEq, Int.reduceNe, Int.reduceAdd, Int.reduceSub, Int.reduceMul, Int.reduceNeg, N]
    generalize hβ : Heap.set _ b5 (scC tk b r.2) = β0
    have e5 : β0 b5 = some (scC tk b r.2) := hit_set hβ
    have e4 : β0 b4 = some [.int .i64 0, .int .i64 0, .int .i64 0, .int .i64 0, .sl .full [], .str ByteArray.empty, .sl .full []] := by rw [← hβ]; simp [Heap.set, N]
    clear hβ
    try simp only [go_sem, reduceIte, Nat.reduceEqDiff, Nat.reduceAdd, Nat.reduceSub, Nat.reduceMul, Nat.reduceLT, Nat.reduceLeDiff, Nat.reducePow, Int.reduceToNat, Int.reduceLT, Int.reduceLE, Int.reduceEq, Int.reduceNe, Int.reduceAdd, Int.reduceSub, Int.reduceMul, Int.reduceNeg, N]
    refine new_any fun b6 hb6 => ?_
    have N := And.intro N (box_ne hb6 e4)
    have N := And.intro N (box_ne hb6 e5)
    try simp only [go_sem, reduceIte, Nat.reduceEqDiff, Nat.reduceAdd, Nat.reduceSub, Nat.reduceMul, Nat.reduceLT, Nat.reduceLeDiff, Nat.reducePow, Int.reduceToNat, Int.reduceLT, Int.reduceLE, Int.reduceEq, Int.reduceNe, Int.reduceAdd, Int.reduceSub, Int.reduceMul, Int.reduceNeg, N, e5, scC]
    refine cd_dec (fun k1 => ?_) (fun k1 => ?_)
    · have hF : pDecF b at_ = (Pr.nul, 0, r.2.2) := by
        rw [pDecF, if_neg k]; dsimp only; rw [hr, if_neg k1]
      try simp only [go_sem, reduceIte, Nat.reduceEqDiff, Nat.reduceAdd, Nat.reduceSub, Nat.reduceMul, Nat.reduceLT, Nat.reduceLeDiff, Nat.reducePow, Int.reduceToNat, Int.reduceLT, Int.reduceLE, Int.reduceEq, Int.reduceNe, Int.reduceAdd, Int.reduceSub, Int.reduceMul, Int.reduceNeg, N, e4, e5]
      rw [hF]
      exact ⟨⟨rfl, by simp [scC]⟩, by simp [rdAdd, N], finK_drop ⟨rfl, rfl, rfl⟩⟩
    · have hF : pDecF b at_ = (r.1, r.2.1, 0) := by
        rw [pDecF, if_neg k]; dsimp only; rw [hr, if_pos (Decidable.not_not.1 k1)]
      try simp only [go_sem, reduceIte, Nat.reduceEqDiff, Nat.reduceAdd, Nat.reduceSub, Nat.reduceMul, Nat.reduceLT, Nat.reduceLeDiff, Nat.reducePow, Int.reduceToNat, Int.reduceLT, Int.reduceLE, Int.reduceEq, Int.reduceNe, Int.reduceAdd, Int.reduceSub, Int.reduceMul, Int.reduceNeg, N, e4, e5]
      rw [hF]
      exact ⟨⟨rfl, by simp [scC]⟩, by simp [rdAdd, N], finK_drop ⟨by simp [D.er, D.er1, scC, Pr_er], rfl, rfl⟩⟩
end Go.Proofs.YtpblgfgcoamgmaaS
