
import Derived.Test.YtnoenipdooackaaGreatDoorE2
set_option linter.unusedVariables false
set_option linter.unusedSimpArgs false
namespace Go.Proofs.YtnoenipdooackaaGreatDoorS
open Go Go.Proofs.YtnoenipdooackaaGreatDoorV

/-- A source at a place, without an error. -/
abbrev scp (k : Nat) : Sc := ((k : Int), 0)
/-! What is written is read back: the parts of a summary. -/
theorem nxU_enc {B pre rest : List Nat} {n : Nat} (hB : B = pre ++ (enc n ++ rest)) (hn : n < 18446744073709551616) : nxU B (scp (pre.length)) = ((n : Int), (scp ((pre ++ enc n).length))) := by
  have h := readU_enc pre rest n hn
  rw [List.append_assoc, ← hB] at h
  simp only [nxU, if_true, h, List.length_append]
  rfl
theorem nxS_enc {B pre rest : List Nat} {k : Int} (hB : B = pre ++ (enc (zig k) ++ rest)) (hk : I64 k) : nxS B (scp (pre.length)) = (k, (scp ((pre ++ enc (zig k)).length))) := by
  have h := readU_enc pre rest (zig k) (zig_lt hk)
  rw [List.append_assoc, ← hB] at h
  simp only [nxS, if_true, h, List.length_append, unzig_zig]
  rfl
theorem nxT_enc {B pre rest : List Nat} {s : ByteArray} (hB : B = pre ++ (enc s.size ++ sb s ++ rest)) (hs : s.size ≤ 1048576) : nxT B (scp (pre.length)) = (s, (scp ((pre ++ (enc s.size ++ sb s)).length))) := by
  have e : s.size = (sb s).length := (sb_len s).symm
  have h := spanF_enc pre (sb s) rest (by omega)
  have hc := cut_enc pre (sb s) rest (sb s).length
  rw [← e] at h hc
  have e2 : pre ++ enc s.size ++ sb s ++ rest = B := by rw [hB]; simp
  rw [e2] at h hc
  have el : (sb s).length = s.size := e.symm
  simp only [nxT, if_true, h, List.length_append]
  rw [hc, strN_sb, el]
  simp [Nat.add_assoc]
theorem failS_false (s : Sc) (e : Int) : failS s e false = s := by simp [failS]
theorem bndF_enc {B pre rest : List Nat} {v : Vl} (hB : B = pre ++ (encW v ++ rest)) (hn : v.null = false) (hi : I64 v.n) (hs : v.s.size ≤ 200) : bndF B (scp (pre.length)) = (v, (scp ((pre ++ encW v).length))) := by
  have h1 := nxS_enc (B := B) (pre := pre) (rest := enc v.s.size ++ sb v.s ++ rest) (k := v.n) (by rw [hB, encW]; simp) hi
  have h2 := nxT_enc (B := B) (pre := pre ++ enc (zig v.n)) (rest := rest) (s := v.s) (by rw [hB, encW]; simp) (by omega)
  simp only [bndF, h1, h2]
  rw [decide_eq_false (by omega), failS_false]
  obtain ⟨vn, vi, vs⟩ := v
  simp only at hn
  subst hn
  simp [encW]
theorem limitF_false {v : Vl} (h : limitF v false = true) : v.null = false ∧ v.s.size ≤ 200 := by simpa [limitF] using h
theorem limitF_true {v : Vl} (h : limitF v true = true) : v = Vl.nul := by simpa [limitF] using h
theorem bdsF_enc {B pre rest : List Nat} {rows : Int} {last : Option Int} {x : Bd} (hB : B = pre ++ (encB rows x ++ rest)) (hr : 0 ≤ rows ∧ rows ≤ 2147483647) (hi : x.I) (hx : bdOk rows x = true) (hl : ∀ q, last = some q → q < x.id) : bdsF B rows last (scp (pre.length)) = (x, (scp ((pre ++ encB rows x).length))) := by
  obtain ⟨i1, i2, i3, i4⟩ := hi
  have hx' := hx
  simp only [bdOk, Bool.and_eq_true, decide_eq_true_eq] at hx
  obtain ⟨⟨⟨⟨x1, x2⟩, x3⟩, x4⟩, x5⟩ := hx
  have h1 := nxS_enc (B := B) (pre := pre) (rest := (enc x.nulls.toNat ++ if x.nulls < rows then encW x.min ++ encW x.max else []) ++ rest) (k := x.id) (by rw [hB, encB]; simp) i1
  have h2 := nxU_enc (B := B) (pre := pre ++ enc (zig x.id)) (rest := (if x.nulls < rows then encW x.min ++ encW x.max else []) ++ rest) (n := x.nulls.toNat) (by rw [hB, encB]; simp) (by omega)
  have hm : failS (scp (pre ++ enc (zig x.id)).length) 5 (match (generalizing := false) last with | some q => decide (x.id ≤ q) | none => false) = scp (pre ++ enc (zig x.id)).length := by
    cases last with
    | none => exact failS_false _ _
    | some q =>
      have := hl q rfl
      show failS _ 5 (decide (x.id ≤ q)) = _
      rw [decide_eq_false (by omega), failS_false]
  have hw : IntKind.i64.wrap ((x.nulls.toNat : Nat) : Int) = x.nulls := by rw [wrap_i64 (by omega) (by omega)]; omega
  have hF : bdsF B rows last (scp pre.length) = (let n1 := nxU B (failS (scp (pre ++ enc (zig x.id)).length) 5 (match (generalizing := false) last with | some q => decide (x.id ≤ q) | none => false)); let s2 := failS n1.2 5 (decide (rows < n1.1));
      if s2.2 = 0 ∧ IntKind.i64.wrap n1.1 < rows then (⟨x.id, IntKind.i64.wrap n1.1, (bndF B s2).1, (bndF B (bndF B s2).2).1⟩, failS (bndF B (bndF B s2).2).2 5 (decide (0 < cmpV (bndF B s2).1 (bndF B (bndF B s2).2).1)))
      else (⟨x.id, IntKind.i64.wrap n1.1, Vl.nul, Vl.nul⟩, s2)) := by
    have e : nxS B (scp pre.length) = (x.id, scp (pre ++ enc (zig x.id)).length) := h1
    unfold bdsF
    rw [e]
    rfl
  rw [hF, hm]
  simp only [h2, hw]
  rw [decide_eq_false (by omega), failS_false]
  by_cases hn : x.nulls < rows
  · have e : decide (x.nulls = rows) = false := decide_eq_false (by omega)
    rw [e] at x3 x4
    obtain ⟨y1, y2⟩ := limitF_false x3
    obtain ⟨y3, y4⟩ := limitF_false x4
    have h3 := bndF_enc (B := B) (pre := pre ++ enc (zig x.id) ++ enc x.nulls.toNat) (rest := encW x.max ++ rest) (v := x.min) (by rw [hB, encB, if_pos hn]; simp) y1 i3 y2
    have h4 := bndF_enc (B := B) (pre := pre ++ enc (zig x.id) ++ enc x.nulls.toNat ++ encW x.min) (rest := rest) (v := x.max) (by rw [hB, encB, if_pos hn]; simp) y3 i4 y4
    simp only [h3, h4]
    rw [if_pos ⟨trivial, hn⟩, decide_eq_false (by omega), failS_false]
    refine Prod.ext rfl ?_
    simp only [encB, if_pos hn]
    simp [Nat.add_assoc]
  · have e : decide (x.nulls = rows) = true := decide_eq_true (by omega)
    rw [e] at x3 x4
    have y1 := limitF_true x3
    have y2 := limitF_true x4
    rw [if_neg (by rintro ⟨_, h⟩; exact hn h)]
    refine Prod.ext ?_ ?_
    · obtain ⟨a, b, c, d⟩ := x
      simp only at y1 y2
      subst y1 y2; rfl
    · simp only [encB, if_neg hn]
      simp
theorem decL_enc {B : List Nat} {rows : Int} (hr : 0 ≤ rows ∧ rows ≤ 2147483647) : ∀ (l acc : List Bd) (pre rest : List Nat), B = pre ++ (l.flatMap (encB rows) ++ rest) → (∀ x ∈ l, x.I) → okL rows (acc.getLast?.map (·.id)) l = true →
    decL B rows l.length acc (scp (pre.length)) = (acc ++ l, (scp ((pre ++ l.flatMap (encB rows)).length)))
  | [], acc, pre, rest, hB, _, _ => by simp [decL]
  | x :: l, acc, pre, rest, hB, hi, ho => by
    rw [okL_cons] at ho
    simp only [Bool.and_eq_true] at ho
    obtain ⟨⟨o1, o2⟩, o3⟩ := ho
    have h1 := bdsF_enc (B := B) (pre := pre) (rest := l.flatMap (encB rows) ++ rest) (rows := rows) (last := acc.getLast?.map (·.id)) (x := x) (by rw [hB]; simp) hr (hi x (by simp)) o2 (fun q hq => by
      rw [hq] at o1; simpa using o1)
    have ih := decL_enc (B := B) hr l (acc ++ [x]) (pre ++ encB rows x) rest (by rw [hB]; simp) (fun y hy => hi y (by simp [hy])) (by simpa using o3)
    simp only [List.length_cons, decL, if_true, h1]
    rw [ih]
    simp [Nat.add_assoc]
theorem decF_enc {w : Sm} (hw : formedF w = true) (hi : ∀ x ∈ w.l, x.I) (pre post : List Nat) : decF (pre ++ (encS w ++ post)) (pre.length : Nat) = (w, (((pre ++ encS w).length : Nat) : Int), 0) := by
  simp only [formedF, Bool.and_eq_true, decide_eq_true_eq] at hw
  obtain ⟨⟨⟨f1, f2⟩, f3⟩, f4⟩ := hw
  obtain ⟨B, hB⟩ : ∃ B, pre ++ (encS w ++ post) = B := ⟨_, rfl⟩
  rw [hB]
  have h1 := nxU_enc (B := B) (pre := pre) (rest := enc w.l.length ++ w.l.flatMap (encB w.rows) ++ post) (n := w.rows.toNat) (by rw [← hB, encS]; simp) (by omega)
  have h2 := nxU_enc (B := B) (pre := pre ++ enc w.rows.toNat) (rest := w.l.flatMap (encB w.rows) ++ post) (n := w.l.length) (by rw [← hB, encS]; simp) (by omega)
  have h3 := decL_enc (B := B) (rows := w.rows) ⟨f1, f2⟩ w.l [] (pre ++ enc w.rows.toNat ++ enc w.l.length) post (by rw [← hB, encS]; simp) hi (by simpa using f4)
  have hlen : ¬ (((pre.length : Nat) : Int) < 0 ∨ (B.length : Int) < (pre.length : Nat)) := by
    rw [← hB]; simp only [List.length_append]; omega
  have hw : toI ((w.rows.toNat : Nat) : Int) = w.rows := by unfold toI; rw [wrap_i64 (by omega) (by omega)]; omega
  rw [decF, if_neg hlen]
  simp only [h1]
  rw [decide_eq_false (by omega), failS_false]
  simp only [h2]
  rw [decide_eq_false (by omega), failS_false, hw]
  simp only [Int.toNat_natCast, h3]
  rw [if_pos trivial]
  obtain ⟨wr, wl⟩ := w
  simp [encS, Nat.add_assoc]

/-! What is accepted is what would be written. -/
theorem nxU_uniq {B : List Nat} {k : Nat} {v : Int} {s : Sc} (hb : Byt B) (hk : k ≤ B.length) (h : nxU B (scp (k)) = (v, s)) (h0 : s.2 = 0) : ∃ n nx : Nat, v = n ∧ n < 18446744073709551616 ∧ s = (scp (nx)) ∧ k < nx ∧ nx ≤ B.length ∧ B.take k ++ enc n = B.take nx := by
  simp only [nxU, if_true] at h
  have hs := readU_spec B (k : Nat) hb
  obtain ⟨n, nx, e, hr⟩ : ∃ n nx e, readU B (k : Nat) = (n, nx, e) := ⟨_, _, _, rfl⟩
  rw [hr] at h hs
  simp only [Prod.mk.injEq] at h
  obtain ⟨rfl, rfl⟩ := h
  simp only at h0
  have he : e = 0 := by omega
  subst he
  obtain ⟨q1, q2, q3⟩ := readU_uniq hb hk hr
  exact ⟨n, nx, rfl, by have := hs.1; simp only at this; omega, rfl, q1, q2, q3⟩
theorem nxS_uniq {B : List Nat} {k : Nat} {v : Int} {s : Sc} (hb : Byt B) (hk : k ≤ B.length) (h : nxS B (scp (k)) = (v, s)) (h0 : s.2 = 0) : ∃ nx : Nat, I64 v ∧ s = (scp (nx)) ∧ k < nx ∧ nx ≤ B.length ∧ B.take k ++ enc (zig v) = B.take nx := by
  obtain ⟨v', s', e⟩ : ∃ v' s', nxU B (scp (k)) = (v', s') := ⟨_, _, rfl⟩
  have e2 : s' = s ∧ v = unzig v'.toNat := by
    simp only [nxU, nxS, if_true, Prod.mk.injEq] at h e
    obtain ⟨rfl, rfl⟩ := h
    obtain ⟨rfl, rfl⟩ := e
    exact ⟨rfl, rfl⟩
  obtain ⟨rfl, rfl⟩ := e2
  obtain ⟨n, nx, rfl, h1, h2, h3, h4, h5⟩ := nxU_uniq hb hk e h0
  refine ⟨nx, unzig_range (by simpa using h1), h2, h3, h4, ?_⟩
  rw [zig_unzig]; simpa using h5
theorem sb_strN {l : List Nat} (h : Byt l) : sb (strN l) = l := by
  have h1 : ∀ (l : List Nat) (r : ByteArray), Byt l → sb ((l.map fun c => ((c : Nat) : Int)).foldl (fun r n => r.push (UInt8.ofNat n.toNat)) r) = sb r ++ l := by
    intro l
    induction l with
    | nil => intro r _; simp
    | cons c l ih =>
      intro r hb
      rw [List.map_cons, List.foldl_cons, ih _ fun x hx => hb x (by simp [hx])]
      have hc := hb c (by simp)
      have : (UInt8.ofNat c).toNat = c := by simp; omega
      simp [sb, ByteArray.push, this]
  unfold strN strOfI
  have e : (bs l).map byteOfD = l.map fun c => ((c : Nat) : Int) := by simp [bs, byteOfD, Function.comp_def]
  rw [e, h1 l _ h]
  rfl
theorem nxT_uniq {B : List Nat} {k : Nat} {v : ByteArray} {s : Sc} (hb : Byt B) (hk : k ≤ B.length) (h : nxT B (scp (k)) = (v, s)) (h0 : s.2 = 0) : ∃ nx : Nat, s = (scp (nx)) ∧ k < nx ∧ nx ≤ B.length ∧ B.take k ++ (enc v.size ++ sb v) = B.take nx := by
  simp only [nxT, if_true, Prod.mk.injEq] at h
  obtain ⟨hv, rfl⟩ := h
  simp only at h0
  obtain ⟨n, nx, e, hr⟩ : ∃ n nx e, readU B (k : Nat) = (n, nx, e) := ⟨_, _, _, rfl⟩
  have hsp : spanF B (k : Nat) = if e ≠ 0 then (0, 0, e) else if 1048576 < n then (0, 0, 2) else if B.length < nx + n then (0, 0, 6) else (nx, nx + n, 0) := by
    unfold spanF; rw [hr]
  by_cases he : e = 0
  case neg => rw [hsp, if_pos he] at h0; simp only at h0; omega
  subst he
  by_cases hn : 1048576 < n
  · rw [hsp, if_neg (by simp), if_pos hn] at h0; simp at h0
  by_cases hl : B.length < nx + n
  · rw [hsp, if_neg (by simp), if_neg hn, if_pos hl] at h0; simp at h0
  have hS : spanF B (k : Nat) = (nx, nx + n, 0) := by rw [hsp, if_neg (by simp), if_neg hn, if_neg hl]
  rw [hS] at hv ⊢
  simp only at hv
  obtain ⟨q1, q2, q3⟩ := readU_uniq hb hk hr
  have hcl : ((B.drop nx).take (nx + n - nx)).length = n := by simp; omega
  have hbc : Byt ((B.drop nx).take (nx + n - nx)) := (hb.drop nx).take _
  have hsb : sb v = (B.drop nx).take (nx + n - nx) := by rw [← hv, sb_strN hbc]
  have hsz : v.size = n := by rw [← sb_len, hsb, hcl]
  refine ⟨nx + n, rfl, by omega, by omega, ?_⟩
  rw [hsz, hsb, ← List.append_assoc, q3, Nat.add_sub_cancel_left]
  rw [List.take_add]
theorem bndF_uniq {B : List Nat} {k : Nat} {v : Vl} {s : Sc} (hb : Byt B) (hk : k ≤ B.length) (h : bndF B (scp (k)) = (v, s)) (h0 : s.2 = 0) : ∃ nx : Nat, v.null = false ∧ I64 v.n ∧ v.s.size ≤ 200 ∧ s = (scp (nx)) ∧ k < nx ∧ nx ≤ B.length ∧ B.take k ++ encW v = B.take nx := by
  obtain ⟨n, s1, h1⟩ : ∃ n s1, nxS B (scp (k)) = (n, s1) := ⟨_, _, rfl⟩
  obtain ⟨t, s2, h2⟩ : ∃ t s2, nxT B s1 = (t, s2) := ⟨_, _, rfl⟩
  simp only [bndF, h1, h2, Prod.mk.injEq] at h
  obtain ⟨rfl, rfl⟩ := h
  obtain ⟨g1, g2⟩ := failS_err (by decide) h0
  have g3 : s1.2 = 0 := by
    by_cases q : s1.2 = 0
    · exact q
    · simp only [nxT, if_neg q, Prod.mk.injEq] at h2
      rw [← h2.2] at g1; exact g1
  obtain ⟨a, a1, rfl, a2, a3, a4⟩ := nxS_uniq hb hk h1 g3
  obtain ⟨c, rfl, c2, c3, c4⟩ := nxT_uniq hb a3 h2 g1
  rw [g2, failS_false]
  simp only [decide_eq_false_iff_not] at g2
  refine ⟨c, rfl, a1, by simp only; omega, rfl, by omega, c3, ?_⟩
  rw [encW, ← List.append_assoc, a4, c4]
theorem nxU_keep {B : List Nat} {s : Sc} (h : (nxU B s).2.2 = 0) : s.2 = 0 := nxU_err B s h
theorem nxS_keep {B : List Nat} {s : Sc} (h : (nxS B s).2.2 = 0) : s.2 = 0 := by
  unfold nxS at h
  split at h
  · assumption
  · exact h
theorem bndF_keep {B : List Nat} {s : Sc} (h : (bndF B s).2.2 = 0) : s.2 = 0 := by
  simp only [bndF] at h
  have h1 := (failS_err (by decide) h).1
  have h2 : (nxS B s).2.2 = 0 := by
    unfold nxT at h1
    split at h1
    · assumption
    · exact h1
  exact nxS_keep h2
theorem sc_eta {s : Sc} (h : s.2 = 0) : s = (s.1, 0) := Prod.ext rfl h
theorem bdsF_uniq {B : List Nat} {rows : Int} {last : Option Int} {k : Nat} {x : Bd} {s : Sc} (hb : Byt B) (hk : k ≤ B.length) (hr : 0 ≤ rows ∧ rows ≤ 2147483647) (h : bdsF B rows last (scp (k)) = (x, s)) (h0 : s.2 = 0) :
    ∃ nx : Nat, x.I ∧ bdOk rows x = true ∧ (∀ q, last = some q → q < x.id) ∧ s = (scp (nx)) ∧ k < nx ∧ nx ≤ B.length ∧ B.take k ++ encB rows x = B.take nx := by
  obtain ⟨id, a, h1⟩ : ∃ id a, nxS B (scp (k)) = (id, a) := ⟨_, _, rfl⟩
  obtain ⟨s1, hs1⟩ : ∃ s1, failS a 5 (match (generalizing := false) last with | some q => decide (id ≤ q) | none => false) = s1 := ⟨_, rfl⟩
  obtain ⟨nu, c, h2⟩ : ∃ nu c, nxU B s1 = (nu, c) := ⟨_, _, rfl⟩
  obtain ⟨s2, hs2⟩ : ∃ s2, failS c 5 (decide (rows < nu)) = s2 := ⟨_, rfl⟩
  have hF : bdsF B rows last (scp k) = (let s1' := failS a 5 (match (generalizing := false) last with | some q => decide (id ≤ q) | none => false); let n1 := nxU B s1'; let s2' := failS n1.2 5 (decide (rows < n1.1));
      if s2'.2 = 0 ∧ IntKind.i64.wrap n1.1 < rows then (⟨id, IntKind.i64.wrap n1.1, (bndF B s2').1, (bndF B (bndF B s2').2).1⟩, failS (bndF B (bndF B s2').2).2 5 (decide (0 < cmpV (bndF B s2').1 (bndF B (bndF B s2').2).1)))
      else (⟨id, IntKind.i64.wrap n1.1, Vl.nul, Vl.nul⟩, s2')) := by
    unfold bdsF
    rw [h1]
    rfl
  rw [hF, hs1] at h
  simp only [h2, hs2] at h
  have fin : s2.2 = 0 → ∃ (a' c' n : Nat), I64 id ∧ (∀ q, last = some q → q < id) ∧ nu = n ∧ (n : Int) ≤ rows ∧ s2 = (scp (c')) ∧ k < a' ∧ a' < c' ∧ c' ≤ B.length ∧ B.take k ++ enc (zig id) ++ enc n = B.take c' := fun g => by
    rw [← hs2] at g
    obtain ⟨g1, g2⟩ := failS_err (by decide) g
    have g3 := nxU_keep (B := B) (s := s1) (by rw [h2]; exact g1)
    rw [← hs1] at g3
    obtain ⟨g4, g5⟩ := failS_err (by decide) g3
    obtain ⟨a', a1, rfl, a2, a3, a4⟩ := nxS_uniq hb hk h1 g4
    rw [g5, failS_false] at hs1
    rw [← hs1] at h2
    obtain ⟨n, c', rfl, b1, rfl, b2, b3, b4⟩ := nxU_uniq hb a3 h2 g1
    simp only [decide_eq_false_iff_not] at g2
    rw [decide_eq_false g2, failS_false] at hs2
    refine ⟨a', c', n, a1, fun q hq => ?_, rfl, by omega, hs2.symm, a2, b2, b3, by rw [a4, b4]⟩
    rw [hq] at g5
    simp only [decide_eq_false_iff_not] at g5
    omega
  by_cases hc : s2.2 = 0 ∧ IntKind.i64.wrap nu < rows
  · rw [if_pos hc] at h
    obtain ⟨a', c', n, f1, f2, rfl, f4, f5, f6, f7, f8, f9⟩ := fin hc.1
    have hw : IntKind.i64.wrap ((n : Nat) : Int) = n := wrap_i64 (by omega) (by omega)
    rw [hw] at h hc
    obtain ⟨mn, d, h3⟩ : ∃ mn d, bndF B s2 = (mn, d) := ⟨_, _, rfl⟩
    obtain ⟨mx, e, h4⟩ : ∃ mx e, bndF B d = (mx, e) := ⟨_, _, rfl⟩
    simp only [h3, h4, Prod.mk.injEq] at h
    obtain ⟨rfl, rfl⟩ := h
    obtain ⟨g1, g2⟩ := failS_err (by decide) h0
    have g3 := bndF_keep (B := B) (s := d) (by rw [h4]; exact g1)
    rw [f5] at h3
    obtain ⟨d', d1, d2, d3, rfl, d4, d5, d6⟩ := bndF_uniq hb f8 h3 g3
    obtain ⟨e', e1, e2, e3, rfl, e4, e5, e6⟩ := bndF_uniq hb d5 h4 g1
    rw [g2, failS_false]
    simp only [decide_eq_false_iff_not] at g2
    refine ⟨e', ⟨f1, ⟨by simp only; omega, by simp only; omega⟩, d2, e2⟩, ?_, f2, rfl, by omega, e5, ?_⟩
    · have q : ¬ ((n : Int) = rows) := by omega
      simp only [bdOk, q, limitF, d1, e1, d3, e3, Bool.and_eq_true, decide_eq_true_eq, decide_false, Bool.false_eq_true, if_false, Bool.not_false, true_and, and_true]
      omega
    · simp only [encB, Int.toNat_natCast]
      rw [if_pos hc.2, ← List.append_assoc, ← List.append_assoc, ← List.append_assoc, f9, d6, e6]
  · rw [if_neg hc] at h
    simp only [Prod.mk.injEq] at h
    obtain ⟨rfl, rfl⟩ := h
    obtain ⟨a', c', n, f1, f2, rfl, f4, rfl, f6, f7, f8, f9⟩ := fin h0
    have hw : IntKind.i64.wrap ((n : Nat) : Int) = n := wrap_i64 (by omega) (by omega)
    have hn : (n : Int) = rows := by
      have : ¬ (n : Int) < rows := fun q => hc ⟨h0, by rw [hw]; exact q⟩
      omega
    refine ⟨c', ⟨f1, ⟨by simp only [hw]; omega, by simp only [hw]; omega⟩, by simp [Vl.nul, I64], by simp [Vl.nul, I64]⟩, ?_, f2, rfl, by omega, f8, ?_⟩
    · have hwr : IntKind.i64.wrap rows = rows := wrap_i64 (by omega) (by omega)
      simp only [bdOk, hn, hwr, limitF]
      simp [cmpV, cmpN, cmpS, hr]
      decide
    · simp only [encB, hw, Int.toNat_natCast]
      rw [if_neg (by omega), List.append_nil, ← List.append_assoc, f9]
theorem decL_uniq {B : List Nat} {rows : Int} (hb : Byt B) (hr : 0 ≤ rows ∧ rows ≤ 2147483647) : ∀ (n : Nat) (acc l : List Bd) (k : Nat) (s : Sc), k ≤ B.length → decL B rows n acc (scp (k)) = (l, s) → s.2 = 0 →
    ∃ (m : List Bd) (nx : Nat), l = acc ++ m ∧ m.length = n ∧ (∀ x ∈ m, x.I) ∧ okL rows (acc.getLast?.map (·.id)) m = true ∧ s = (scp (nx)) ∧ k ≤ nx ∧ nx ≤ B.length ∧ B.take k ++ m.flatMap (encB rows) = B.take nx
  | 0, acc, l, k, s, hk, h, h0 => by
    simp only [decL, Prod.mk.injEq] at h
    obtain ⟨rfl, rfl⟩ := h
    exact ⟨[], k, by simp, rfl, by simp, okL_nil _ _, rfl, by omega, hk, by simp⟩
  | n + 1, acc, l, k, s, hk, h, h0 => by
    obtain ⟨x, s1, h1⟩ : ∃ x s1, bdsF B rows (acc.getLast?.map (·.id)) (scp (k)) = (x, s1) := ⟨_, _, rfl⟩
    simp only [decL, if_true, h1] at h
    have g : s1.2 = 0 := by
      by_cases q : s1.2 = 0
      · exact q
      · rw [decL_err _ _ _ _ _ q] at h
        simp only [Prod.mk.injEq] at h
        rw [← h.2] at h0; exact h0
    obtain ⟨k1, x1, x2, x3, rfl, x4, x5, x6⟩ := bdsF_uniq hb hk hr h1 g
    obtain ⟨m, nx, rfl, m1, m2, m3, m4, m5, m6, m7⟩ := decL_uniq hb hr n (acc ++ [x]) l k1 s x5 h h0
    refine ⟨x :: m, nx, by simp, by simp [m1], fun y hy => ?_, ?_, m4, by omega, m6, ?_⟩
    · rcases List.mem_cons.1 hy with rfl | hy
      · exact x1
      · exact m2 y hy
    · rw [okL_cons]
      simp only [Bool.and_eq_true]
      refine ⟨⟨?_, x2⟩, by simpa using m3⟩
      cases hq : acc.getLast?.map (·.id) with
      | none => rfl
      | some q => have := x3 q hq; simpa using this
    · rw [List.flatMap_cons, ← List.append_assoc, x6, m7]
theorem decF_uniq {B : List Nat} {k : Nat} {y : Sm} {j : Int} (hb : Byt B) (hk : k ≤ B.length) (h : decF B (k : Nat) = (y, j, 0)) : ∃ nx : Nat, formedF y = true ∧ (∀ x ∈ y.l, x.I) ∧ j = nx ∧ k < nx ∧ nx ≤ B.length ∧ B.take k ++ encS y = B.take nx := by
  obtain ⟨r, a, h1⟩ : ∃ r a, nxU B (scp (k)) = (r, a) := ⟨_, _, rfl⟩
  obtain ⟨s1, hs1⟩ : ∃ s1, failS a 2 (decide (2147483647 < r)) = s1 := ⟨_, rfl⟩
  obtain ⟨n, c, h2⟩ : ∃ n c, nxU B s1 = (n, c) := ⟨_, _, rfl⟩
  obtain ⟨s2, hs2⟩ : ∃ s2, failS c 2 (decide (64 < n)) = s2 := ⟨_, rfl⟩
  obtain ⟨l, s3, h3⟩ : ∃ l s3, decL B (toI r) n.toNat [] s2 = (l, s3) := ⟨_, _, rfl⟩
  rw [decF, if_neg (by omega)] at h
  simp only [h1, hs1, h2, hs2, h3] at h
  by_cases g : s3.2 = 0
  case neg =>
    rw [if_neg g] at h
    simp only [Prod.mk.injEq] at h
    exact absurd h.2.2 g
  rw [if_pos g] at h
  simp only [Prod.mk.injEq] at h
  obtain ⟨rfl, rfl, _⟩ := h
  have g2 : s2.2 = 0 := by
    by_cases q : s2.2 = 0
    · exact q
    · rw [decL_err _ _ _ _ _ q] at h3
      simp only [Prod.mk.injEq] at h3
      rw [← h3.2] at g; exact g
  rw [← hs2] at g2
  obtain ⟨g3, g4⟩ := failS_err (by decide) g2
  have g5 := nxU_keep (B := B) (s := s1) (by rw [h2]; exact g3)
  rw [← hs1] at g5
  obtain ⟨g6, g7⟩ := failS_err (by decide) g5
  obtain ⟨rn, k1, rfl, a1, rfl, a2, a3, a4⟩ := nxU_uniq hb hk h1 g6
  rw [g7, failS_false] at hs1
  rw [← hs1] at h2
  obtain ⟨nn, k2, rfl, b1, rfl, b2, b3, b4⟩ := nxU_uniq hb a3 h2 g3
  rw [g4, failS_false] at hs2
  simp only [decide_eq_false_iff_not] at g4 g7
  have hw : toI ((rn : Nat) : Int) = rn := wrap_i64 (by omega) (by omega)
  rw [← hs2, hw] at h3
  obtain ⟨m, k3, e1, m1, m2, m3, rfl, m5, m6, m7⟩ := decL_uniq hb ⟨by omega, by omega⟩ _ _ _ _ _ b3 h3 g
  rw [List.nil_append] at e1
  subst e1
  simp only [Int.toNat_natCast] at m1
  refine ⟨k3, ?_, m2, rfl, by omega, m6, ?_⟩
  · rw [hw]
    simp only [formedF, Bool.and_eq_true, decide_eq_true_eq]
    exact ⟨⟨⟨by omega, by omega⟩, by omega⟩, by simpa using m3⟩
  · simp only [encS, hw, Int.toNat_natCast, m1]
    rw [← List.append_assoc, ← List.append_assoc, a4, b4, m7]
end Go.Proofs.YtnoenipdooackaaGreatDoorS
