/-
  Programs: the law ProgramRoundTrip.
  Conditions: the bytes are at most 1099511627776.
-/
import Derived.Test.YtpblgfgcoamgmaaGreatG8
set_option linter.unusedVariables false
set_option linter.unusedSimpArgs false
namespace Go.Proofs.YtpblgfgcoamgmaaGreatS
open Go Go.Proofs.YtpblgfgcoamgmaaGreatV

variable {G : Heap}
attribute [local irreducible] VN VC VX VQ VY VW VTA VT0 VPP VP

theorem depN_up : ∀ {n m : Nat} {p : Pr}, n ≤ m → depN n p ≤ n → depN m p ≤ n
  | 0, _, _, _, h => by simp [depN] at h
  | n + 1, m, p, hm, h => by
    obtain ⟨k, rfl⟩ : ∃ k, m = k + 1 := ⟨m - 1, by omega⟩
    have hk := fun q (hq : q ∈ p.kids) => depN_up (m := k) (by omega) (depN_kid h hq)
    rw [depN]
    have := foldl_max_le (B := n) (l := p.kids.map (depN k)) (Nat.zero_le n) fun x hx => by
      obtain ⟨q, hq, rfl⟩ := List.mem_map.1 hx; exact hk q hq
    omega
theorem Vq.e {fs : List Fd} {n : Nat} {q : Pr} (h : Vq fs n q) (hn : n ≤ 7) : PrE q := by
  refine ⟨?_, h.pi⟩
  have hd := depN_up (m := 8) (by omega) h.vp.dep
  unfold wellF
  rw [decide_eq_true (by omega), Bool.true_and, List.all_eq_true]
  exact fun s hs => decide_eq_true (h.vp.form s hs)
theorem flat_le {α : Type} {e : α → List Nat} {B : Nat} : ∀ {l : List α}, (∀ x ∈ l, (e x).length ≤ B) → (l.flatMap e).length ≤ l.length * B
  | [], _ => by simp
  | a :: l, h => by
    have h1 := h a (by simp)
    have h2 := flat_le (l := l) fun x hx => h x (by simp [hx])
    rw [List.flatMap_cons, List.length_append, List.length_cons, Nat.add_mul]; omega
theorem Vq.enc_len {fs : List Fd} {n : Nat} {q : Pr} (h : Vq fs n q) : (encP q).length ≤ 4 ^ n * 4000 := by
  have h1 := flat_le (e := encH) (l := subs q) (B := 4000) fun s hs => encH_len (h.pi s hs) (h.vp.form s hs)
  exact Nat.le_trans h1 (Nat.mul_le_mul_right 4000 h.few)
theorem rwE_of {fs : List Fd} {nx : Int} (h : SOk fs nx) : ∀ (r : Rw) (last : Int), (r.map (·.1)).Pairwise (· < ·) → (∀ c ∈ r, last < c.1) → (∀ c ∈ r, ClFit fs c) → RwE last r
  | [], _, _, _, _ => trivial
  | c :: r, last, hp, hl, hc => by
    rw [List.map_cons, List.pairwise_cons] at hp
    obtain ⟨f, hf, e1, e2, e3, e4⟩ := hc c (by simp)
    have hid := h.ids f hf
    have hhi := h.hi
    refine ⟨hl c (by simp), by omega, e4, e3.n, valOk_200 e3.ok, ?_⟩
    exact rwE_of h r c.1 hp.2 (fun d hd => hp.1 d.1 (List.mem_map.2 ⟨d, hd, rfl⟩)) fun d hd => hc d (by simp [hd])
theorem RwFit.e {fs : List Fd} {nx : Int} (h : SOk fs nx) {r : Rw} (hr : RwFit fs r) : r.length ≤ 64 ∧ RwE 0 r := by
  have h1 := hr.sub.length_le
  have h2 := h.len
  simp only [List.length_map] at h1
  refine ⟨by omega, rwE_of h r 0 (List.Pairwise.sublist hr.sub (List.pairwise_map.2 h.asc)) (fun c hc => ?_) hr.ok⟩
  obtain ⟨f, hf, e1, _⟩ := hr.ok c hc
  have hid := h.ids f hf
  omega
theorem encCl_len {c : Cl} (h1 : c.1 ≤ 1073741824) (h2 : I64' c.2.n) (h3 : c.2.s.size ≤ 200) : (encCl c).length ≤ 230 := by
  have g1 := YtpblgfgcoamgmaaGreatS.enc_len (n := c.1.toNat) (by omega)
  have g2 := YtpblgfgcoamgmaaGreatS.enc_len (zig_lt h2)
  have g3 := YtpblgfgcoamgmaaGreatS.enc_len (n := c.2.s.size) (by omega)
  simp only [encCl, List.length_append, sb_length]; omega
theorem PgMd.e {fs : List Fd} {nx : Int} (h : SOk fs nx) {g : Pg} (hg : PgMd fs g) : PgE g ∧ (encPg g).length ≤ 4000000 := by
  have hgu : ∀ x ∈ g.2.2.2, GuE x := fun x hx => by
    have hx := hg.gd x hx
    obtain ⟨f, hf, e1, _⟩ := hx.fd
    have hid := h.ids f hf
    have hhi := h.hi
    exact ⟨hx.pr.e (by omega), by omega, hx.lo, hx.hi⟩
  refine ⟨⟨hg.read.e (by omega), hg.remove.e (by omega), by have := hg.nAdd; omega, fun r hr => (hg.add r hr).e h, by have := hg.nGd; omega, hgu⟩, ?_⟩
  have a1 := hg.read.enc_len
  have a2 := hg.remove.enc_len
  have a3 := YtpblgfgcoamgmaaGreatS.enc_len (n := g.2.2.1.length) (by have := hg.nAdd; omega)
  have a4 := flat_le (e := encRw) (l := g.2.2.1) (B := 20000) fun r hr => by
    obtain ⟨b1, b2⟩ := (hg.add r hr).e h
    have b3 := YtpblgfgcoamgmaaGreatS.enc_len (n := r.length) (by omega)
    have b4 := flat_le (e := encCl) (l := r) (B := 230) fun c hc => by
      obtain ⟨_, c2, _, c4, c5⟩ := RwE_mem b2 hc
      exact encCl_len c2 c4 c5
    simp only [encRw, List.length_append]; omega
  have a5 := YtpblgfgcoamgmaaGreatS.enc_len (n := g.2.2.2.length) (by have := hg.nGd; omega)
  have a6 := flat_le (e := encGu) (l := g.2.2.2) (B := 20000) fun x hx => by
    have b1 := (hg.gd x hx).pr.enc_len
    have b2 := hgu x hx
    have := b2.id
    have b3 := YtpblgfgcoamgmaaGreatS.enc_len (n := x.2.1.toNat) (by omega)
    have b4 := YtpblgfgcoamgmaaGreatS.enc_len (zig_lt b2.lo)
    have b5 := YtpblgfgcoamgmaaGreatS.enc_len (zig_lt b2.hi)
    simp only [encGu, List.length_append]; omega
  have := hg.nAdd
  have := hg.nGd
  simp only [encPg, List.length_append]; omega
theorem encP_pos (p : Pr) : 0 < (encP p).length := Nat.lt_of_lt_of_le (subs_pos p) (subs_le_enc p)
theorem encPg_pos (g : Pg) : 0 < (encPg g).length := by
  have := encP_pos g.1
  simp only [encPg, List.length_append]; omega
theorem encP_bytF {q : Pr} (h : ∀ s ∈ subs q, FormP s) : Byt (encP q) := fun x hx => by
  unfold encP at hx
  obtain ⟨s, hs, hx⟩ := List.mem_flatMap.1 hx
  obtain ⟨f1, _⟩ := (h s hs).op
  obtain ⟨_, f2⟩ := (h s hs).op
  have e : ∀ n, Byt (enc n) := fun n => byt_enc n
  rw [encH] at hx
  rcases List.mem_cons.1 hx with rfl | hx
  · omega
  rcases List.mem_append.1 hx with hx | hx
  · split at hx
    · exact e _ x hx
    · cases hx
  · split at hx
    · rcases List.mem_append.1 hx with hx | hx <;> exact e _ x hx
    split at hx
    · rcases List.mem_append.1 hx with hx | hx
      · exact e _ x hx
      · obtain ⟨v, _, hx⟩ := List.mem_flatMap.1 hx
        rw [encVl] at hx
        rcases List.mem_cons.1 hx with rfl | hx
        · unfold bit; split <;> omega
        rcases List.mem_append.1 hx with hx | hx
        · rcases List.mem_append.1 hx with hx | hx
          · exact e _ x hx
          · exact e _ x hx
        · exact byt_sb _ x hx
    split at hx
    · rcases List.mem_append.1 hx with hx | hx
      · exact e _ x hx
      · exact byt_sb _ x hx
    split at hx
    · exact e _ x hx
    · cases hx
theorem PrE.form {p : Pr} (h : PrE p) : ∀ s ∈ subs p, FormP s := fun s hs => by
  have h1 := h.well
  unfold wellF at h1
  rw [Bool.and_eq_true, List.all_eq_true] at h1
  exact of_decide_eq_true (h1.2 s hs)
theorem byt_flat {α : Type} {e : α → List Nat} {l : List α} (h : ∀ x ∈ l, Byt (e x)) : Byt (l.flatMap e) := fun c hc => by
  obtain ⟨x, hx, hc⟩ := List.mem_flatMap.1 hc
  exact h x hx c hc
theorem encPg_byt {g : Pg} (hg : PgE g) : Byt (encPg g) := by
  refine (encP_bytF hg.read.form).append ((encP_bytF hg.remove.form).append ((byt_enc _).append (Byt.append (byt_flat fun r _ => ?_) ((byt_enc _).append (byt_flat fun x hx => ?_)))))
  · exact (byt_enc _).append (byt_flat fun c _ => (byt_enc _).append ((byt_enc _).append ((byt_enc _).append (byt_sb _))))
  · exact (encP_bytF (hg.gd x hx).pr.form).append ((byt_enc _).append ((byt_enc _).append (byt_enc _)))
/-- Without its last byte an encoding is not accepted. -/
theorem pgDec_less {g : Pg} (hg : PgE g) (hb : Byt (encPg g)) : (pgDecF ((encPg g).take ((encPg g).length - 1))).2 ≠ 0 := by
  intro h0
  obtain ⟨q, hq⟩ : ∃ q, (pgDecF ((encPg g).take ((encPg g).length - 1))).1 = q := ⟨_, rfl⟩
  obtain ⟨e1, e2⟩ := pgDec_un (hb.take _) (g := q) (Prod.ext hq h0)
  have hp := encPg_pos g
  have h3 : encPg q ++ (encPg g).drop ((encPg g).length - 1) = encPg g := by rw [e1, List.take_append_drop]
  have h4 := pgDec_more e2 (x := (encPg g).drop ((encPg g).length - 1)) (by
    intro h
    have := congrArg List.length h
    simp only [List.length_drop, List.length_nil] at this
    omega)
  rw [h3, pgDec_enc hg] at h4
  exact absurd (congrArg Prod.snd h4) (by simp)
set_option maxRecDepth 100000 in
set_option maxHeartbeats 16000000 in
theorem trip27_ok (c : Cs) (hc : CsOk c) (b : List Nat) (hb : Byt b) (hbl : b.length ≤ 1099511627776) : VN P G 5 [.agg c.cells, .sl .none (bs b)] (.bool true) := by
  have hs := law27_sanity_ok (G := G)
  have hm := made27_ok (G := G) c hc
  obtain ⟨m, hme⟩ : ∃ m, b.take (if (500 : Int) < b.length then (500 : Int) else b.length).toNat = m := ⟨_, rfl⟩
  have hbm : Byt m := by rw [← hme]; exact hb.take _
  have hlm : m.length ≤ 500 := by rw [← hme, List.length_take]; split <;> omega
  simp only [Cs.cells] at hm ⊢
  unfold VN
  refine VC.ofs (fun | 9 => [(0, []), (1, []), (2, []), (3, []), (4, []), (5, []), (6, []), (7, []), (8, []), (9, []), (10, []), (11, []), (12, []), (13, []), (14, []), (15, []), (16, []), (17, []), (18, []), (19, [])] | 16 => [(0, []), (1, []), (2, []), (3, []), (4, []), (5, []), (8, []), (9, []), (6, []), (7, []), (10, []), (11, []), (12, []), (13, [])] | 99999999 => [(0, [0, 1, 2, 4, 5, 8, 9, 10, 11, 12, 14, 16, 17, 18, 19, 30, 71, 82])] | _ => []) [4] mixed Tryz.func5 rfl rfl rfl rfl (by decide +kernel) (by simp) ?_
  have ebl : (bs b).length = b.length := bs_length b
  simp only [go_sem, reduceIte, Nat.reduceEqDiff, Nat.reduceAdd, Nat.reduceSub, Nat.reduceMul, Nat.reduceLT, Nat.reduceLeDiff, Nat.reducePow, Int.reduceToNat, Int.reduceLT, Int.reduceLE, Int.reduceEq, Int.reduceNe, Int.reduceAdd, Int.reduceSub, Int.reduceMul, Int.reduceNeg]
  intro b1
  generalize hβ : Heap.set Heap.nil b1 _ = β0
  have e1 := hit_set hβ
  clear hβ
  have N := trivial
  try simp only [go_sem, reduceIte, Nat.reduceEqDiff, Nat.reduceAdd, Nat.reduceSub, Nat.reduceMul, Nat.reduceLT, Nat.reduceLeDiff, Nat.reducePow, Int.reduceToNat, Int.reduceLT, Int.reduceLE, Int.reduceEq, Int.reduceNe, Int.reduceAdd, Int.reduceSub, Int.reduceMul, Int.reduceNeg, e1]
  (first | refine cK_vn (hs) ?_ | refine cE_vn (hs) ?_)
  try simp only [go_sem, reduceIte, Nat.reduceEqDiff, Nat.reduceAdd, Nat.reduceSub, Nat.reduceMul, Nat.reduceLT, Nat.reduceLeDiff, Nat.reducePow, Int.reduceToNat, Int.reduceLT, Int.reduceLE, Int.reduceEq, Int.reduceNe, Int.reduceAdd, Int.reduceSub, Int.reduceMul, Int.reduceNeg, e1]
  refine cK_vx hm ?_
  rintro _ ⟨fs, nx, t, l, rfl, hso, ht, hl6, hg⟩
  have el : (l.map pgD).length = l.length := by simp
  simp only [Tbl.cells]
  try simp only [go_sem, reduceIte, Nat.reduceEqDiff, Nat.reduceAdd, Nat.reduceSub, Nat.reduceMul, Nat.reduceLT, Nat.reduceLeDiff, Nat.reducePow, Int.reduceToNat, Int.reduceLT, Int.reduceLE, Int.reduceEq, Int.reduceNe, Int.reduceAdd, Int.reduceSub, Int.reduceMul, Int.reduceNeg, e1]
  refine new_any fun b6 hb6 => ?_
  have N := And.intro N (box_ne hb6 e1)
  generalize hβ_ : Heap.set _ b6 _ = β_
  have e6 := hit_set hβ_
  have e1 := keep_new hβ_ hb6 e1
  clear hβ_ hb6
  try simp only [go_sem, reduceIte, Nat.reduceEqDiff, Nat.reduceAdd, Nat.reduceSub, Nat.reduceMul, Nat.reduceLT, Nat.reduceLeDiff, Nat.reducePow, Int.reduceToNat, Int.reduceLT, Int.reduceLE, Int.reduceEq, Int.reduceNe, Int.reduceAdd, Int.reduceSub, Int.reduceMul, Int.reduceNeg, N, e1, e6]
  refine new_any fun b7 hb7 => ?_
  have N := And.intro N (box_ne hb7 e1)
  have N := And.intro N (box_ne hb7 e6)
  try simp only [go_sem, reduceIte, Nat.reduceEqDiff, Nat.reduceAdd, Nat.reduceSub, Nat.reduceMul, Nat.reduceLT, Nat.reduceLeDiff, Nat.reducePow, Int.reduceToNat, Int.reduceLT, Int.reduceLE, Int.reduceEq, Int.reduceNe, Int.reduceAdd, Int.reduceSub, Int.reduceMul, Int.reduceNeg, N, e1, e6]
  clear e6 hb7
  generalize Heap.set _ b7 _ = β_
  refine vwq_loop (fun v => ∃ (i : Nat), i ≤ l.length ∧ v.σ 1 = .sl .none (bs b) ∧ v.σ 5 = .bool true ∧ v.σ 8 = .sl .none (l.map pgD) ∧ v.σ 9 = .int .i64 i) (fun v => l.length - (ival (v.σ 9)).toNat) ⟨0, by omega, rfl, rfl, rfl, rfl⟩ ?_
  clear e1
  rintro σ β ω ⟨i, hi, q1, q5, q8, q9⟩
  dsimp only at q1 q5 q8 q9
  try simp only [go_sem, reduceIte, Nat.reduceEqDiff, Nat.reduceAdd, Nat.reduceSub, Nat.reduceMul, Nat.reduceLT, Nat.reduceLeDiff, Nat.reducePow, Int.reduceToNat, Int.reduceLT, Int.reduceLE, Int.reduceEq, Int.reduceNe, Int.reduceAdd, Int.reduceSub, Int.reduceMul, Int.reduceNeg, q1, q5, q8, q9, el]
  refine cd_dec (fun k => ?_) (fun k => ?_)
  · have k' := eq_true k
    obtain ⟨g, hgx, eg⟩ := Pg_at (l := l) (j := i) (by omega)
    have hgm := hg g (List.mem_of_getElem? hgx)
    obtain ⟨hE, hElen⟩ := hgm.e hso
    have c1 : ((0 : Int) ≤ i) = True := eq_true (by omega)
    have wi := wrap_i64 (x := (i : Int) + 1) (by omega) (by omega)
    have h1 := enc27 (G := G) g _ hE rfl hElen
    have hby := encPg_byt hE
    have hpos := encPg_pos g
    have h2 := dec27 (G := G) .none (encPg g) _ hby (by omega) (pgDec_enc hE)
    have h3 := fun tk => dec27 (G := G) tk (encPg g ++ [0]) _ (hby.append (byt_all (by decide))) (by simp only [List.length_append, List.length_singleton]; omega) (pgDec_more hE (x := [0]) (by simp))
    have hless := pgDec_less hE hby
    obtain ⟨r, hr⟩ : ∃ r, pgDecF ((encPg g).take ((encPg g).length - 1)) = r := ⟨_, rfl⟩
    have h4 := dec27 (G := G) .none ((encPg g).take ((encPg g).length - 1)) _ (hby.take _) (by rw [List.length_take]; omega) hr
    rw [hr] at hless
    have h5 := Same27_ok (G := G) g
    generalize encPg g = e at h1 h2 h3 h4 hby hpos hElen
    have ee : (bs e).length = e.length := bs_length e
    simp only [Pg.cells16, Pg.c16] at h1 h2 h4 h5
    have we := wrap_i64 (x := (e.length : Int) - 1) (by omega) (by omega)
    have wt : ((e.length : Int) - 1).toNat = e.length - 1 := by omega
    have h0' := eq_false hless
    try simp only [go_sem, reduceIte, Nat.reduceEqDiff, Nat.reduceAdd, Nat.reduceSub, Nat.reduceMul, Nat.reduceLT, Nat.reduceLeDiff, Nat.reducePow, Int.reduceToNat, Int.reduceLT, Int.reduceLE, Int.reduceEq, Int.reduceNe, Int.reduceAdd, Int.reduceSub, Int.reduceMul, Int.reduceNeg, q1, q5, q8, q9, el, eg, k', c1]
    (first | refine cK_vn (h1) ?_ | refine cE_vn (h1) ?_)
    try simp only [go_sem, reduceIte, Nat.reduceEqDiff, Nat.reduceAdd, Nat.reduceSub, Nat.reduceMul, Nat.reduceLT, Nat.reduceLeDiff, Nat.reducePow, Int.reduceToNat, Int.reduceLT, Int.reduceLE, Int.reduceEq, Int.reduceNe, Int.reduceAdd, Int.reduceSub, Int.reduceMul, Int.reduceNeg, q1, q5, q8, q9, el, eg, k', c1]
    (first | refine cK_vn (h2) ?_ | refine cE_vn (h2) ?_)
    try simp only [go_sem, reduceIte, Nat.reduceEqDiff, Nat.reduceAdd, Nat.reduceSub, Nat.reduceMul, Nat.reduceLT, Nat.reduceLeDiff, Nat.reducePow, Int.reduceToNat, Int.reduceLT, Int.reduceLE, Int.reduceEq, Int.reduceNe, Int.reduceAdd, Int.reduceSub, Int.reduceMul, Int.reduceNeg, q1, q5, q8, q9, el, eg, k', c1]
    refine new_any fun b11 hb11 => ?_
    refine ⟨by omega, fun t1 ht1 => ⟨by omega, fun t2 ht2 => ?_⟩⟩
    generalize hβ_ : Heap.set _ b11 _ = β_
    have e11 := hit_set hβ_
    clear hβ_ hb11
    rw [show bs e ++ [D.int .u8 0] = bs (e ++ [0]) from bs_snoc e 0]
    (first | refine cK_vn (h3 _) ?_ | refine cE_vn (h3 _) ?_)
    simp only [Pg.cells16, Pg.c16, Pg.nul, Pr.nul, Pr.op, Pr.id, Pr.lo, Pr.hi, Pr.set, Pr.text, Pr.kids, List.map_nil]
    try simp only [go_sem, reduceIte, Nat.reduceEqDiff, Nat.reduceAdd, Nat.reduceSub, Nat.reduceMul, Nat.reduceLT, Nat.reduceLeDiff, Nat.reducePow, Int.reduceToNat, Int.reduceLT, Int.reduceLE, Int.reduceEq, Int.reduceNe, Int.reduceAdd, Int.reduceSub, Int.reduceMul, Int.reduceNeg, q1, q5, q8, q9, el, eg, k', c1, e11]
    refine new_any fun b13 hb13 => ?_
    have N := And.intro N (box_ne hb13 e11)
    generalize hβ_ : Heap.set _ b13 _ = β_
    have e13 := hit_set hβ_
    have e11 := keep_new hβ_ hb13 e11
    clear hβ_ hb13
    have e0 : ((e.length : Int) = 0) = False := eq_false (by omega)
    try simp only [go_sem, reduceIte, Nat.reduceEqDiff, Nat.reduceAdd, Nat.reduceSub, Nat.reduceMul, Nat.reduceLT, Nat.reduceLeDiff, Nat.reducePow, Int.reduceToNat, Int.reduceLT, Int.reduceLE, Int.reduceEq, Int.reduceNe, Int.reduceAdd, Int.reduceSub, Int.reduceMul, Int.reduceNeg, N, q1, q5, q8, q9, el, eg, k', c1, e11, ee, e0, ne_eq, not_true_eq_false, not_false_eq_true, decide_false]
    (first | refine cK_vn (h5) ?_ | refine cE_vn (h5) ?_)
    try simp only [go_sem, reduceIte, Nat.reduceEqDiff, Nat.reduceAdd, Nat.reduceSub, Nat.reduceMul, Nat.reduceLT, Nat.reduceLeDiff, Nat.reducePow, Int.reduceToNat, Int.reduceLT, Int.reduceLE, Int.reduceEq, Int.reduceNe, Int.reduceAdd, Int.reduceSub, Int.reduceMul, Int.reduceNeg, N, q1, q5, q8, q9, el, eg, k', c1, e11, ee, e0, ne_eq, not_true_eq_false, not_false_eq_true, decide_false]
    rw [we, wt]
    refine ⟨⟨by omega, by omega⟩, ?_⟩
    (first | refine cK_vn (h4) ?_ | refine cE_vn (h4) ?_)
    try simp only [go_sem, reduceIte, Nat.reduceEqDiff, Nat.reduceAdd, Nat.reduceSub, Nat.reduceMul, Nat.reduceLT, Nat.reduceLeDiff, Nat.reducePow, Int.reduceToNat, Int.reduceLT, Int.reduceLE, Int.reduceEq, Int.reduceNe, Int.reduceAdd, Int.reduceSub, Int.reduceMul, Int.reduceNeg, N, q1, q5, q8, q9, el, h0', wi]
    refine new_any fun b15 hb15 => ?_
    have N := And.intro N (box_ne hb15 e11)
    try simp only [go_sem, reduceIte, Nat.reduceEqDiff, Nat.reduceAdd, Nat.reduceSub, Nat.reduceMul, Nat.reduceLT, Nat.reduceLeDiff, Nat.reducePow, Int.reduceToNat, Int.reduceLT, Int.reduceLE, Int.reduceEq, Int.reduceNe, Int.reduceAdd, Int.reduceSub, Int.reduceMul, Int.reduceNeg, N, q1, q5, q8, q9, el, h0', wi]
    exact ⟨⟨i + 1, by omega, rfl⟩, by omega⟩
  · try simp only [go_sem, reduceIte, Nat.reduceEqDiff, Nat.reduceAdd, Nat.reduceSub, Nat.reduceMul, Nat.reduceLT, Nat.reduceLeDiff, Nat.reducePow, Int.reduceToNat, Int.reduceLT, Int.reduceLE, Int.reduceEq, Int.reduceNe, Int.reduceAdd, Int.reduceSub, Int.reduceMul, Int.reduceNeg, q1, q5, q8, q9, ebl]
    refine ⟨⟨by split <;> omega, by split <;> omega⟩, ?_⟩
    rw [hme]
    by_cases h0 : (pgDecF m).2 = 0
    · obtain ⟨q, hq⟩ : ∃ q, (pgDecF m).1 = q := ⟨_, rfl⟩
      have hmm : pgDecF m = (q, 0) := Prod.ext hq h0
      obtain ⟨u1, u2⟩ := pgDec_un hbm hmm
      have h1 := dec27 (G := G) .none m _ hbm (by omega) hmm
      have h2 := enc27 (G := G) q _ u2 u1 (by omega)
      simp only [Pg.cells16, Pg.c16] at h1 h2
      (first | refine cK_vn (h1) ?_ | refine cE_vn (h1) ?_)
      try simp only [go_sem, reduceIte, Nat.reduceEqDiff, Nat.reduceAdd, Nat.reduceSub, Nat.reduceMul, Nat.reduceLT, Nat.reduceLeDiff, Nat.reducePow, Int.reduceToNat, Int.reduceLT, Int.reduceLE, Int.reduceEq, Int.reduceNe, Int.reduceAdd, Int.reduceSub, Int.reduceMul, Int.reduceNeg, q1, q5, q8, q9]
      refine new_any fun b18 hb18 => ?_
      refine ⟨bs_isByte m hbm, ?_⟩
      (first | refine cK_vn (h2) ?_ | refine cE_vn (h2) ?_)
      try simp only [go_sem, reduceIte, Nat.reduceEqDiff, Nat.reduceAdd, Nat.reduceSub, Nat.reduceMul, Nat.reduceLT, Nat.reduceLeDiff, Nat.reducePow, Int.reduceToNat, Int.reduceLT, Int.reduceLE, Int.reduceEq, Int.reduceNe, Int.reduceAdd, Int.reduceSub, Int.reduceMul, Int.reduceNeg, q1, q5, q8, q9]
      exact ⟨bs_isByte m hbm, finK_drop ⟨rfl, rfl, rfl⟩⟩
    · have hmm : pgDecF m = (Pg.nul, (pgDecF m).2) := pgErr h0 rfl
      have h1 := dec27 (G := G) .none m _ hbm (by omega) hmm
      generalize (pgDecF m).2 = z at h0 h1
      simp only [Pg.cells16, Pg.c16, Pg.nul, Pr.nul, Pr.op, Pr.id, Pr.lo, Pr.hi, Pr.set, Pr.text, Pr.kids, List.map_nil] at h1
      (first | refine cK_vn (h1) ?_ | refine cE_vn (h1) ?_)
      have h0' := eq_false h0
      try simp only [go_sem, reduceIte, Nat.reduceEqDiff, Nat.reduceAdd, Nat.reduceSub, Nat.reduceMul, Nat.reduceLT, Nat.reduceLeDiff, Nat.reducePow, Int.reduceToNat, Int.reduceLT, Int.reduceLE, Int.reduceEq, Int.reduceNe, Int.reduceAdd, Int.reduceSub, Int.reduceMul, Int.reduceNeg, q1, q5, q8, q9, h0', ne_eq, not_false_eq_true, not_true_eq_false, decide_true, decide_false]
      refine new_any fun b18 hb18 => ?_
      try simp only [go_sem, reduceIte, Nat.reduceEqDiff, Nat.reduceAdd, Nat.reduceSub, Nat.reduceMul, Nat.reduceLT, Nat.reduceLeDiff, Nat.reducePow, Int.reduceToNat, Int.reduceLT, Int.reduceLE, Int.reduceEq, Int.reduceNe, Int.reduceAdd, Int.reduceSub, Int.reduceMul, Int.reduceNeg, q1, q5, q8, q9, h0', ne_eq, not_false_eq_true, not_true_eq_false, decide_true, decide_false]
      exact finK_drop ⟨rfl, rfl, rfl⟩
end Go.Proofs.YtpblgfgcoamgmaaGreatS
