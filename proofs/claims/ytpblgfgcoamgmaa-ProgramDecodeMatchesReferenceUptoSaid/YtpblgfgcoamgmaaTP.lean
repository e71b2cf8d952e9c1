/-
  Programs, plain: what is encoded is decoded, a further byte is refused, and what is decoded is the encoding.
  Conditions: none.
-/
import Derived.Test.YtpblgfgcoamgmaaTA
import Derived.Test.YtpblgfgcoamgmaaQE
set_option linter.unusedVariables false
set_option linter.unusedSimpArgs false
namespace Go.Proofs.YtpblgfgcoamgmaaS
open Go Go.Proofs.YtpblgfgcoamgmaaV

def encCl (c : Cl) : List Nat := enc c.1.toNat ++ (enc (zig c.2.n) ++ (enc c.2.s.size ++ sb c.2.s))
def encRw (r : Rw) : List Nat := enc r.length ++ r.flatMap encCl
def encGu (g : Gu) : List Nat := encP g.1 ++ (enc g.2.1.toNat ++ (enc (zig g.2.2.1) ++ enc (zig g.2.2.2)))
def encPg (g : Pg) : List Nat := encP g.1 ++ (encP g.2.1 ++ (enc g.2.2.1.length ++ (g.2.2.1.flatMap encRw ++ (enc g.2.2.2.length ++ g.2.2.2.flatMap encGu))))
/-- Cells whose encoding is read back. -/
def RwE : Int → Rw → Prop
  | _, [] => True
  | last, c :: r => last < c.1 ∧ c.1 ≤ 1073741824 ∧ c.2.null = false ∧ I64' c.2.n ∧ c.2.s.size ≤ 200 ∧ RwE c.1 r
structure PrE (p : Pr) : Prop where
  well : wellF p = true
  pi : ∀ q ∈ subs p, PI q
structure GuE (g : Gu) : Prop where
  pr : PrE g.1
  id : 0 < g.2.1 ∧ g.2.1 ≤ 1073741824
  lo : I64' g.2.2.1
  hi : I64' g.2.2.2
structure PgE (g : Pg) : Prop where
  read : PrE g.1
  remove : PrE g.2.1
  nAdd : g.2.2.1.length ≤ 4096
  add : ∀ r ∈ g.2.2.1, r.length ≤ 64 ∧ RwE 0 r
  nGd : g.2.2.2.length ≤ 16
  gd : ∀ x ∈ g.2.2.2, GuE x

theorem gNum_rd {b : List Nat} {n lim i j : Nat} (hn : n ≤ lim) (hl : lim ≤ 1073741824) (h : Sp b i (enc n) j) : gNum b lim (at0 i) = (n, at0 j) := by
  unfold gNum; rw [nxU_rd (by omega) h]; dsimp only
  have e : failS (at0 j) 2 (decide (lim < n)) = at0 j := by rw [failS, if_neg (by simp; omega)]
  rw [e, if_pos rfl]
theorem gId_rd {b : List Nat} {least n : Int} {i j : Nat} (h0 : 0 ≤ least) (h1 : least < n) (h2 : n ≤ 1073741824) (h : Sp b i (enc n.toNat) j) : gId b least (at0 i) = (n.toNat, at0 j) := by
  unfold gId; rw [gNum_rd (by omega) (by omega) h]; dsimp only
  have e : failS (at0 j) 5 (decide ((n.toNat : Int) ≤ least)) = at0 j := by rw [failS, if_neg (by simp; omega)]
  rw [e]
theorem gPred_rd {b : List Nat} {p : Pr} {i j : Nat} (hp : PrE p) (h : Sp b i (encP p) j) : gPred b (at0 i) = (p, at0 j) := by
  unfold gPred; rw [if_pos rfl, pDec_enc hp.well hp.pi h]
theorem gCells_rd {b : List Nat} : ∀ {r acc : Rw} {last : Int} {i j : Nat}, 0 ≤ last → RwE last r → Sp b i (r.flatMap encCl) j → gCells b r.length acc last (at0 i) = (acc ++ r, at0 j)
  | [], acc, last, i, j, _, _, h => by
    have := h.len
    simp only [List.flatMap_nil, List.length_nil, Nat.add_zero] at this
    subst this; simp [gCells]
  | c :: r, acc, last, i, j, h0, hr, h => by
    obtain ⟨a1, a2, a3, a4, a5, a6⟩ := hr
    rw [List.flatMap_cons, encCl, List.append_assoc, List.append_assoc] at h
    obtain ⟨s1, h⟩ := h.split
    obtain ⟨s2, h⟩ := h.split
    obtain ⟨s3, h⟩ := h.split
    rw [List.length_cons, gCells, if_pos rfl, gId_rd h0 a1 a2 s1]; dsimp only
    rw [nxS_rd a4 s2]; dsimp only
    rw [txt_rd a5 s3]; dsimp only
    rw [show ((c.1.toNat : Nat) : Int) = c.1 by omega, gCells_rd (by omega) a6 h]
    obtain ⟨c1, ⟨cn, ci, cs⟩⟩ := c
    dsimp only at a3
    subst a3
    simp
theorem gRow_rd {b : List Nat} {r : Rw} {i j : Nat} (h1 : r.length ≤ 64) (h2 : RwE 0 r) (h : Sp b i (encRw r) j) : gRow b (at0 i) = (r, at0 j) := by
  obtain ⟨s1, h⟩ := h.split
  unfold gRow
  rw [gNum_rd h1 (by omega) s1]; dsimp only
  rw [gCells_rd (by omega) h2 h]; simp
theorem gList_rd {α : Type} {b : List Nat} {el : Sc → α × Sc} {e : α → List Nat} : ∀ {l acc : List α} {i j : Nat}, (∀ x ∈ l, ∀ i j, Sp b i (e x) j → el (at0 i) = (x, at0 j)) → Sp b i (l.flatMap e) j → gListF el l.length acc (at0 i) = (acc ++ l, at0 j)
  | [], acc, i, j, _, h => by
    have := h.len
    simp only [List.flatMap_nil, List.length_nil, Nat.add_zero] at this
    subst this; simp [gListF]
  | x :: l, acc, i, j, hx, h => by
    rw [List.flatMap_cons] at h
    obtain ⟨s1, h⟩ := h.split
    rw [List.length_cons, gListF, if_pos rfl, hx x (by simp) _ _ s1]; dsimp only
    rw [gList_rd (fun y hy => hx y (by simp [hy])) h]; simp
theorem gGd_rd {b : List Nat} {g : Gu} {i j : Nat} (hg : GuE g) (h : Sp b i (encGu g) j) : gGd b (at0 i) = (g, at0 j) := by
  obtain ⟨s1, h⟩ := h.split
  obtain ⟨s2, h⟩ := h.split
  obtain ⟨s3, h⟩ := h.split
  have hl := h.len
  unfold gGd
  rw [gPred_rd hg.pr s1]; dsimp only
  rw [gId_rd (by omega) hg.id.1 hg.id.2 s2]; dsimp only
  rw [nxS_rd hg.lo s3]; dsimp only
  rw [nxS_rd hg.hi h]; dsimp only
  have := hg.id.1
  rw [show ((g.2.1.toNat : Nat) : Int) = g.2.1 by omega]
theorem gDec_rd {b : List Nat} {g : Pg} {j : Nat} (hg : PgE g) (h : Sp b 0 (encPg g) j) : gDec b = if (j : Int) ≠ b.length then (Pg.nul, 5) else (g, 0) := by
  obtain ⟨s1, h⟩ := h.split
  obtain ⟨s2, h⟩ := h.split
  obtain ⟨s3, h⟩ := h.split
  obtain ⟨s4, h⟩ := h.split
  obtain ⟨s5, h⟩ := h.split
  unfold gDec
  have e0 : ((0, 0) : Sc) = at0 0 := rfl
  rw [e0, gPred_rd hg.read s1]; dsimp only
  rw [gPred_rd hg.remove s2]; dsimp only
  rw [gNum_rd hg.nAdd (by omega) s3]; dsimp only
  rw [gList_rd (e := encRw) (fun r hr i j h => gRow_rd (hg.add r hr).1 (hg.add r hr).2 h) s4]; dsimp only
  rw [gNum_rd hg.nGd (by omega) s5]; dsimp only
  rw [gList_rd (e := encGu) (fun r hr i j h => gGd_rd (hg.gd r hr) h) h]; dsimp only
  simp
theorem Sp_all (x y : List Nat) : Sp (x ++ y) 0 x x.length := ⟨by omega, by simp, by simp⟩
/-- What is encoded is decoded. -/
theorem pgDec_enc {g : Pg} (hg : PgE g) : pgDecF (encPg g) = (g, 0) := by
  have h := gDec_rd hg (b := encPg g) (by have := Sp_all (encPg g) []; rwa [List.append_nil] at this)
  rw [← gDec_eq, h, if_neg (by simp)]
/-- With further bytes it is refused. -/
theorem pgDec_more {g : Pg} (hg : PgE g) {x : List Nat} (hx : x ≠ []) : pgDecF (encPg g ++ x) = (Pg.nul, 5) := by
  rw [← gDec_eq, gDec_rd hg (Sp_all (encPg g) x), if_pos]
  have := List.length_pos_iff.2 hx
  simp only [List.length_append]; omega

theorem gNum_un {b : List Nat} (hb : Byt b) (lim : Nat) (s : Sc) : RdS b s (enc (gNum b lim s).1) (gNum b lim s).2 := fun e => by
  have h1 := nxU_un hb s
  have e0 : failS (nxU b s).2 2 (decide (lim < (nxU b s).1)) = (gNum b lim s).2 := by
    unfold gNum; dsimp only; split <;> rfl
  rw [← e0] at e ⊢
  obtain ⟨f1, f2, f3⟩ := failS_no (by omega) e
  have e1 : (gNum b lim s).1 = (nxU b s).1 := by
    unfold gNum; dsimp only; rw [f3, if_pos f1]
  rw [f3, e1]
  exact h1 f1
theorem gId_un {b : List Nat} (hb : Byt b) (least : Int) (s : Sc) : RdS b s (enc (gId b least s).1) (gId b least s).2 ∧ ((gId b least s).2.2 = 0 → least < (gId b least s).1 ∧ (gId b least s).1 ≤ 1073741824) := by
  have h1 := gNum_un hb 1073741824 s
  have h2 := gNum_le (b := b) (lim := 1073741824) (s := s)
  unfold gId
  generalize gNum b 1073741824 s = n at h1 h2 ⊢
  dsimp only
  refine ⟨fun e => ?_, fun e => ?_⟩
  · obtain ⟨f1, f2, f3⟩ := failS_no (by omega) e
    rw [f3]; exact h1 f1
  · obtain ⟨f1, f2, f3⟩ := failS_no (by omega) e
    simp only [decide_eq_false_iff_not] at f2
    exact ⟨by omega, h2⟩
theorem gPred_un {b : List Nat} (hb : Byt b) (s : Sc) : RdS b s (encP (gPred b s).1) (gPred b s).2 ∧ ((gPred b s).2.2 = 0 → PrE (gPred b s).1) := by
  unfold gPred
  by_cases h : s.2 = 0
  rotate_left
  · rw [if_neg h]; exact ⟨RdS.bad h, fun e => absurd e h⟩
  rw [if_pos h]
  unfold pDecF
  by_cases hc : s.1 < 0 ∨ (b.length : Int) < s.1
  · rw [if_pos hc]; exact ⟨RdS.bad (by simp), fun e => absurd e (by simp)⟩
  rw [if_neg hc]
  obtain ⟨h1, h2⟩ := pred_un hb 8 (s.1, 0)
  dsimp only
  by_cases e : (predF b 8 (s.1, 0)).2.2 = 0
  · rw [if_pos e]
    obtain ⟨g1, g2⟩ := h2 e
    refine ⟨fun _ => ⟨h, fun a0 a1 => ?_⟩, fun _ => ⟨?_, fun q hq => (g1 q hq).2⟩⟩
    · exact (h1 e).2 a0 a1
    · simp only [wellF, Bool.and_eq_true, decide_eq_true_eq, List.all_eq_true]
      exact ⟨g2, fun q hq => (g1 q hq).1⟩
  · rw [if_neg e]; exact ⟨RdS.bad e, fun h' => absurd h' e⟩
theorem RdS.ok {b x : List Nat} {s t : Sc} (h : RdS b s x t) (e : t.2 = 0) : s.2 = 0 := (h e).1
theorem gCells_un {b : List Nat} (hb : Byt b) : ∀ (n : Nat) (l : Rw) (last : Int) (s : Sc), (gCells b n l last s).2.2 = 0 → ∃ r, (gCells b n l last s).1 = l ++ r ∧ r.length = n ∧ RwE last r ∧ RdS b s (r.flatMap encCl) (gCells b n l last s).2
  | 0, l, last, s, e => ⟨[], by simp [gCells], rfl, trivial, by simp only [gCells, List.flatMap_nil]; exact RdS.refl⟩
  | n + 1, l, last, s, e => by
    by_cases h : s.2 = 0
    rotate_left
    · rw [gCells, if_neg h] at e; exact absurd e h
    rw [gCells, if_pos h] at e ⊢
    obtain ⟨i1, i2⟩ := gId_un hb last s
    generalize gId b last s = i at i1 i2 e ⊢
    have x1 := nxS_un hb i.2
    have x2 := nxS_I hb i.2
    generalize nxS b i.2 = x at x1 x2 e ⊢
    obtain ⟨t1, t2⟩ := txt_un hb x.2
    generalize txtF b x.2 = t at t1 t2 e ⊢
    obtain ⟨r, r1, r2, r3, r4⟩ := gCells_un hb n _ _ _ e
    have et : t.2.2 = 0 := r4.ok e
    have ex := t1.ok et
    have ei := x1.ok ex
    obtain ⟨i3, i4⟩ := i2 ei
    refine ⟨((i.1 : Int), ⟨false, x.1, t.1⟩) :: r, ?_, by simp [r2], ⟨i3, by dsimp only; omega, rfl, x2, t2 et, r3⟩, ?_⟩
    · rw [r1]; simp
    · rw [List.flatMap_cons]
      unfold encCl
      dsimp only
      rw [Int.toNat_natCast]
      have := ((i1.trans (x1.trans t1)).trans r4)
      exact this
theorem gRow_un {b : List Nat} (hb : Byt b) (s : Sc) : RdS b s (encRw (gRow b s).1) (gRow b s).2 ∧ ((gRow b s).2.2 = 0 → (gRow b s).1.length ≤ 64 ∧ RwE 0 (gRow b s).1) := by
  have h1 := gNum_un hb 64 s
  have h2 := gNum_le (b := b) (lim := 64) (s := s)
  unfold gRow
  generalize gNum b 64 s = n at h1 h2 ⊢
  by_cases e : (gCells b n.1 [] 0 n.2).2.2 = 0
  rotate_left
  · exact ⟨RdS.bad e, fun h => absurd h e⟩
  obtain ⟨r, r1, r2, r3, r4⟩ := gCells_un hb n.1 [] 0 n.2 e
  rw [List.nil_append] at r1
  rw [r1]
  refine ⟨?_, fun _ => ⟨by omega, r3⟩⟩
  unfold encRw
  rw [r2]
  exact h1.trans r4
theorem gList_un {α : Type} {b : List Nat} {el : Sc → α × Sc} {e : α → List Nat} {good : α → Prop} (hel : ∀ s, RdS b s (e (el s).1) (el s).2 ∧ ((el s).2.2 = 0 → good (el s).1)) : ∀ (n : Nat) (l : List α) (s : Sc), (gListF el n l s).2.2 = 0 → ∃ r, (gListF el n l s).1 = l ++ r ∧ r.length = n ∧ (∀ x ∈ r, good x) ∧ RdS b s (r.flatMap e) (gListF el n l s).2
  | 0, l, s, _ => ⟨[], by simp [gListF], rfl, by simp, by simp only [gListF, List.flatMap_nil]; exact RdS.refl⟩
  | n + 1, l, s, h' => by
    by_cases h : s.2 = 0
    rotate_left
    · rw [gListF, if_neg h] at h'; exact absurd h' h
    rw [gListF, if_pos h] at h' ⊢
    obtain ⟨i1, i2⟩ := hel s
    generalize el s = i at i1 i2 h' ⊢
    obtain ⟨r, r1, r2, r3, r4⟩ := gList_un hel n _ _ h'
    refine ⟨i.1 :: r, by rw [r1]; simp, by simp [r2], fun x hx => ?_, ?_⟩
    · rcases List.mem_cons.1 hx with rfl | hx
      · exact i2 (r4.ok h')
      · exact r3 x hx
    · rw [List.flatMap_cons]; exact i1.trans r4
theorem gGd_un {b : List Nat} (hb : Byt b) (s : Sc) : RdS b s (encGu (gGd b s).1) (gGd b s).2 ∧ ((gGd b s).2.2 = 0 → GuE (gGd b s).1) := by
  obtain ⟨p1, p2⟩ := gPred_un hb s
  unfold gGd
  generalize gPred b s = p at p1 p2 ⊢
  obtain ⟨i1, i2⟩ := gId_un hb 0 p.2
  generalize gId b 0 p.2 = i at i1 i2 ⊢
  have x1 := nxS_un hb i.2
  have x2 := nxS_I hb i.2
  generalize nxS b i.2 = x at x1 x2 ⊢
  have y1 := nxS_un hb x.2
  have y2 := nxS_I hb x.2
  generalize nxS b x.2 = y at y1 y2 ⊢
  refine ⟨?_, fun e => ?_⟩
  · unfold encGu; dsimp only; rw [Int.toNat_natCast]; exact p1.trans (i1.trans (x1.trans y1))
  · have ex := y1.ok e
    have ei := x1.ok ex
    have ep := i1.ok ei
    obtain ⟨i3, i4⟩ := i2 ei
    exact ⟨p2 ep, ⟨i3, by dsimp only; omega⟩, x2, y2⟩
/-- What is decoded is the encoding of what is returned, and can be encoded. -/
theorem pgDec_un {b : List Nat} (hb : Byt b) {g : Pg} (h : pgDecF b = (g, 0)) : encPg g = b ∧ PgE g := by
  rw [← gDec_eq] at h
  unfold gDec at h
  obtain ⟨p1, p2⟩ := gPred_un hb (0, 0)
  generalize gPred b (0, 0) = p at p1 p2 h
  dsimp only at h
  obtain ⟨m1, m2⟩ := gPred_un hb p.2
  generalize gPred b p.2 = m at m1 m2 h
  have n1 := gNum_un hb 4096 m.2
  have n2 := gNum_le (b := b) (lim := 4096) (s := m.2)
  generalize gNum b 4096 m.2 = n at n1 n2 h
  have l1 := gList_un (b := b) (el := gRow b) (e := encRw) (good := fun r => r.length ≤ 64 ∧ RwE 0 r) (gRow_un hb) n.1 [] n.2
  generalize gListF (gRow b) n.1 [] n.2 = l at l1 h
  have k1 := gNum_un hb 16 l.2
  have k2 := gNum_le (b := b) (lim := 16) (s := l.2)
  generalize gNum b 16 l.2 = k at k1 k2 h
  have g1 := gList_un (b := b) (el := gGd b) (e := encGu) (good := GuE) (gGd_un hb) k.1 [] k.2
  generalize gListF (gGd b) k.1 [] k.2 = q at g1 h
  by_cases e : q.2.2 = 0
  rotate_left
  · rw [if_pos e] at h; exact absurd (congrArg Prod.snd h) e
  rw [if_neg (fun h => h e)] at h
  by_cases e2 : q.2.1 = b.length
  rotate_left
  · rw [if_pos e2] at h; exact absurd (congrArg Prod.snd h) (by simp)
  rw [if_neg (fun h => h e2)] at h
  obtain ⟨gs, q1, q2, q3, q4⟩ := g1 e
  have ek := q4.ok e
  have el := k1.ok ek
  obtain ⟨rs, r1, r2, r3, r4⟩ := l1 el
  have en := r4.ok el
  have em := n1.ok en
  have ep := m1.ok em
  rw [q1, r1, List.nil_append, List.nil_append] at h
  have hg : g = (p.1, m.1, rs, gs) := (congrArg Prod.fst h).symm
  subst hg
  refine ⟨?_, p2 ep, m2 em, by dsimp only; omega, r3, by dsimp only; omega, q3⟩
  obtain ⟨z1, z2⟩ := (p1.trans (m1.trans (n1.trans (r4.trans (k1.trans q4))))) e
  obtain ⟨z3, z4⟩ := z2 (by simp) (by simp)
  rw [e2, Int.toNat_natCast] at z4
  unfold encPg
  dsimp only
  rw [r2, q2]
  simpa using z4.2.2
end Go.Proofs.YtpblgfgcoamgmaaS
