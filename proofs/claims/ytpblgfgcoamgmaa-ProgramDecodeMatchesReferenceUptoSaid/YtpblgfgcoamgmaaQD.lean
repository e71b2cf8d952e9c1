/-
  Predicates, plain: what is encoded is decoded, and what is decoded is the encoding.
-/
import Derived.Test.YtpblgfgcoamgmaaQ6
import Derived.Test.YtpblgfgcoamgmaaQ7
set_option linter.unusedVariables false
set_option linter.unusedSimpArgs false
namespace Go.Proofs.YtpblgfgcoamgmaaS
open Go Go.Proofs.YtpblgfgcoamgmaaV

/-- From place i to place j stand the bytes x. -/
def Sp (b : List Nat) (i : Nat) (x : List Nat) (j : Nat) : Prop := i ≤ j ∧ j ≤ b.length ∧ b.take i ++ x = b.take j
theorem Sp.trans {b x y : List Nat} {i j k : Nat} (h : Sp b i x j) (g : Sp b j y k) : Sp b i (x ++ y) k :=
  ⟨Nat.le_trans h.1 g.1, g.2.1, by rw [← List.append_assoc, h.2.2, g.2.2]⟩
theorem Sp.refl {b : List Nat} {i : Nat} (h : i ≤ b.length) : Sp b i [] i := ⟨Nat.le_refl _, h, by simp⟩
theorem Sp.len {b x : List Nat} {i j : Nat} (h : Sp b i x j) : j = i + x.length := by
  have := congrArg List.length h.2.2
  have h1 := h.1; have h2 := h.2.1
  simp only [List.length_append, List.length_take] at this; omega
theorem Sp.split {b x y : List Nat} {i k : Nat} (h : Sp b i (x ++ y) k) : Sp b i x (i + x.length) ∧ Sp b (i + x.length) y k := by
  have hk := h.len
  rw [List.length_append] at hk
  have h2 := h.2.1
  have e : b.take (i + x.length) = b.take i ++ x := by
    have h3 : (b.take k).take (i + x.length) = (b.take i ++ (x ++ y)).take (i + x.length) := by rw [h.2.2]
    rw [List.take_take, Nat.min_eq_left (by omega)] at h3
    rw [h3, ← List.append_assoc, List.take_append_of_le_length (by simp; omega), List.take_of_length_le (by simp; omega)]
  exact ⟨⟨by omega, by omega, e.symm⟩, by omega, h2, by rw [e, List.append_assoc]; exact h.2.2⟩
theorem Sp.whole {b x : List Nat} {i j : Nat} (h : Sp b i x j) : b = b.take i ++ x ++ b.drop j := by
  rw [h.2.2, List.take_append_drop]
theorem Sp.pre {b x : List Nat} {i j : Nat} (h : Sp b i x j) : (b.take i).length = i := by
  have h1 := h.1; have h2 := h.2.1
  rw [List.length_take]; omega
abbrev at0 (i : Nat) : Sc := ((i : Int), 0)
theorem readU_sp {b : List Nat} {n i j : Nat} (hn : n < 18446744073709551616) (h : Sp b i (enc n) j) : readU b (i : Nat) = (n, j, 0) := by
  have h1 := readU_enc (b.take i) (b.drop j) n hn
  rw [← h.whole, h.pre, ← h.len] at h1
  exact h1
theorem nxU_rd {b : List Nat} {n i j : Nat} (hn : n < 18446744073709551616) (h : Sp b i (enc n) j) : nxU b (at0 i) = (n, at0 j) := by
  unfold nxU; rw [if_pos rfl]; dsimp only; rw [readU_sp hn h]; rfl
theorem nxS_rd {b : List Nat} {v : Int} {i j : Nat} (hv : I64' v) (h : Sp b i (enc (zig v)) j) : nxS b (at0 i) = (v, at0 j) := by
  unfold nxS; rw [if_pos rfl]; dsimp only; rw [readU_sp (zig_lt hv) h]; dsimp only; rw [unzig_zig]; rfl
theorem one_rd {b : List Nat} {c most i j : Nat} (hc : c ≤ most) (h : Sp b i [c] j) : oneF b most (at0 i) = (c, at0 j) := by
  have hl := h.len
  have h2 := h.2.1
  have e : b.getD i 0 = c := by
    rw [h.whole, List.append_assoc, List.getD, List.getElem?_append_right (by rw [h.pre]; omega), h.pre, Nat.sub_self]; rfl
  simp only [List.length_cons, List.length_nil] at hl
  unfold oneF
  rw [if_neg (by simp), if_neg (by dsimp only; omega)]
  dsimp only
  rw [Int.toNat_natCast, e, failS, if_neg (by simp; omega)]
  simp [at0, hl]
theorem txt_rd {b : List Nat} {s : ByteArray} {i j : Nat} (hs : s.size ≤ 200) (h : Sp b i (enc s.size ++ sb s) j) : txtF b (at0 i) = (s, at0 j) := by
  have h1 := spanF_enc (b.take i) (sb s) (b.drop j) (by rw [sb_length]; omega)
  rw [sb_length, List.append_assoc (b.take i), ← h.whole, h.pre] at h1
  have hl := h.len
  rw [List.length_append, sb_length] at hl
  have hx : nxT b (at0 i) = (s, at0 j) := by
    unfold nxT; rw [if_pos rfl]; dsimp only; rw [h1]; dsimp only
    have e : (b.drop (i + (enc s.size).length)).take (i + (enc s.size).length + s.size - (i + (enc s.size).length)) = sb s := by
      have h3 := h.split
      have h4 := h3.2.whole
      have h5 := h3.2.pre
      rw [h4, List.append_assoc, List.drop_append_of_le_length (by omega), List.drop_of_length_le (by omega), List.nil_append, List.take_append_of_le_length (by rw [sb_length]; omega), List.take_of_length_le (by rw [sb_length]; omega)]
    rw [e, strN_sb]
    simp only [at0, hl, Nat.add_assoc]; rfl
  unfold txtF; rw [hx]; dsimp only
  rw [failS, if_neg (by simp; omega)]
theorem cnt_rd {b : List Nat} {n i j : Nat} (hn : n ≤ 16) (h : Sp b i (enc n) j) : cntF b (at0 i) = (n, at0 j) := by
  unfold cntF; rw [nxU_rd (by omega) h]; dsimp only
  have e : failS (at0 j) 2 (decide (16 < (n : Int))) = at0 j := by rw [failS, if_neg (by simp; omega)]
  rw [e, if_pos rfl]
theorem vals_rd {b : List Nat} : ∀ {l acc : List Vl} {i j : Nat}, (∀ v ∈ l, I64' v.n ∧ v.s.size ≤ 200) → Sp b i (l.flatMap encVl) j → valsF b l.length acc (at0 i) = (acc ++ l, at0 j)
  | [], acc, i, j, _, h => by
    have := h.len
    simp only [List.flatMap_nil, List.length_nil, Nat.add_zero] at this
    subst this; simp [valsF]
  | v :: l, acc, i, j, hv, h => by
    obtain ⟨h1, h2⟩ := hv v (by simp)
    rw [List.flatMap_cons, encVl, List.cons_append, ← List.singleton_append, List.append_assoc (enc (zig v.n)), List.append_assoc (enc (zig v.n))] at h
    obtain ⟨s1, h⟩ := h.split
    obtain ⟨s2, h⟩ := h.split
    obtain ⟨s3, h⟩ := h.split
    rw [List.length_cons, valsF, one_rd (by unfold bit; split <;> omega) s1]; dsimp only
    rw [nxS_rd h1 s2]; dsimp only
    rw [txt_rd h2 s3]; dsimp only
    rw [vals_rd (fun x hx => hv x (by simp [hx])) h]
    have : decide (bit v.null = 1) = v.null := by cases v.null <;> rfl
    rw [this]; simp
theorem kids_rd {b : List Nat} {rd : Sc → Pr × Sc} : ∀ {l acc : List Pr} {i j : Nat}, (∀ k ∈ l, ∀ i j, Sp b i (encP k) j → rd (at0 i) = (k, at0 j)) → Sp b i (l.flatMap encP) j → kidsF rd l.length acc (at0 i) = (acc ++ l, at0 j)
  | [], acc, i, j, _, h => by
    have := h.len
    simp only [List.flatMap_nil, List.length_nil, Nat.add_zero] at this
    subst this; simp [kidsF]
  | k :: l, acc, i, j, hk, h => by
    rw [List.flatMap_cons] at h
    obtain ⟨s1, h⟩ := h.split
    rw [List.length_cons, kidsF, if_pos rfl, hk k (by simp) _ _ s1]; dsimp only
    rw [kids_rd (fun x hx => hk x (by simp [hx])) h]; simp
theorem encP_eq (p : Pr) : encP p = encH p ++ p.kids.flatMap encP := by
  unfold encP
  rw [subs_eq, List.flatMap_cons, subsL_flat, List.flatMap_assoc]
theorem depN_kid {n : Nat} {p k : Pr} (h : depN (n + 1) p ≤ n + 1) (hk : k ∈ p.kids) : depN n k ≤ n := by
  rw [depN] at h
  have h1 : ∀ (l : List Nat) (a x : Nat), x = a ∨ x ∈ l → x ≤ l.foldl max a := by
    intro l
    induction l with
    | nil => intro a x hx; rcases hx with rfl | hx; exact Nat.le_refl _; simp at hx
    | cons y l ih =>
      intro a x hx
      rw [List.foldl_cons]
      rcases hx with rfl | hx
      · exact Nat.le_trans (Nat.le_max_left _ _) (ih _ _ (.inl rfl))
      · rcases List.mem_cons.1 hx with rfl | hx
        · exact Nat.le_trans (Nat.le_max_right _ _) (ih _ _ (.inl rfl))
        · exact ih _ _ (.inr hx)
  have := h1 (p.kids.map (depN n)) 0 (depN n k) (.inr (List.mem_map_of_mem hk))
  omega
theorem failS_f (s : Sc) (e : Int) : failS s e false = s := by simp [failS]
set_option maxHeartbeats 1000000 in
theorem predG_rd {b : List Nat} {m : Nat} {rd : Sc → Pr × Sc} {p : Pr} {i j : Nat} (hf : FormP p) (hi : PI p) (hm : 0 < p.kids.length → 2 ≤ m)
    (hrd : ∀ k ∈ p.kids, ∀ i j, Sp b i (encP k) j → rd (at0 i) = (k, at0 j)) (h : Sp b i (encP p) j) : predG b m rd (at0 i) = (p, at0 j) := by
  rw [encP_eq] at h
  obtain ⟨hop, hid, hlo, hhi, htx, hse, hki, s16, k16, one7, t200, v200⟩ := hf
  obtain ⟨i1, i2, i3, i4⟩ := hi
  obtain ⟨op, id, lo, hi', set, text, kids⟩ := p
  dsimp only [Pr.op, Pr.id, Pr.lo, Pr.hi, Pr.set, Pr.text, Pr.kids, usedP] at *
  obtain ⟨o, rfl⟩ : ∃ o : Nat, op = (o : Int) := ⟨op.toNat, by omega⟩
  simp only [encH, Pr.op, Pr.id, Pr.lo, Pr.hi, Pr.set, Pr.text, Pr.kids, Int.toNat_natCast] at h
  rw [← List.singleton_append, List.append_assoc] at h
  obtain ⟨s0, h⟩ := h.split
  have h1 := one_rd (most := 7) (by omega) s0
  unfold predG
  rw [h1]
  dsimp only
  have ho : o = 0 ∨ o = 1 ∨ o = 2 ∨ o = 3 ∨ o = 4 ∨ o = 5 ∨ o = 6 ∨ o = 7 := by omega
  have nil : ∀ {α : Type} {l : List α}, l.length = ([] : List α).length → l = [] := fun h => List.eq_nil_of_length_eq_zero h
  rcases ho with rfl | rfl | rfl | rfl | rfl | rfl | rfl | rfl
  · obtain rfl := nil hse; obtain rfl := nil hki
    simp [isAt] at h hid hlo hhi htx ⊢
    have hl := h.len
    simp at hl
    simp [hid, hlo, hhi, htx]; omega
  · obtain rfl := nil hki; obtain rfl := nil hse
    simp [isAt] at h hid hlo hhi htx ⊢
    obtain ⟨t1, h⟩ := h.split
    obtain ⟨t2, t3⟩ := h.split
    simp only [nxS_rd i1 t1, nxS_rd i2 t2, nxS_rd i3 t3]
    simp [htx]
  · obtain rfl := nil hki
    simp [isAt] at h hid hlo hhi htx ⊢
    obtain ⟨t1, h⟩ := h.split
    obtain ⟨t2, t3⟩ := h.split
    simp only [nxS_rd i1 t1, cnt_rd s16 t2, vals_rd (acc := []) (fun v hv => ⟨i4 v hv, v200 v hv⟩) t3]
    simp [hlo, hhi, htx]
  · obtain rfl := nil hki; obtain rfl := nil hse
    simp [isAt] at h hid hlo hhi htx ⊢
    obtain ⟨t1, t2⟩ := h.split
    simp only [nxS_rd i1 t1, txt_rd t200 t2]
    simp [hlo, hhi]
  · obtain rfl := nil hki; obtain rfl := nil hse
    simp [isAt] at h hid hlo hhi htx ⊢
    simp only [nxS_rd i1 h]
    simp [hlo, hhi, htx]
  · obtain rfl := nil hse
    simp [isAt] at h hid hlo hhi htx ⊢
    obtain ⟨t1, t2⟩ := h.split
    have f2 : (decide (0 < kids.length) && decide (m < 2)) = false := by
      by_cases z : 0 < kids.length
      · have := hm z; simp; omega
      · simp [z]
    simp only [cnt_rd k16 t1, f2, failS_f, kids_rd (acc := []) hrd t2]
    simp [hid, hlo, hhi, htx]
  · obtain rfl := nil hse
    simp [isAt] at h hid hlo hhi htx ⊢
    obtain ⟨t1, t2⟩ := h.split
    have f2 : (decide (0 < kids.length) && decide (m < 2)) = false := by
      by_cases z : 0 < kids.length
      · have := hm z; simp; omega
      · simp [z]
    simp only [cnt_rd k16 t1, f2, failS_f, kids_rd (acc := []) hrd t2]
    simp [hid, hlo, hhi, htx]
  · obtain rfl := nil hse
    simp [isAt] at h hid hlo hhi htx ⊢
    obtain ⟨t1, t2⟩ := h.split
    have f2 : (decide (0 < kids.length) && decide (m < 2)) = false := by
      by_cases z : 0 < kids.length
      · have := hm z; simp; omega
      · simp [z]
    have f7 : (!decide (kids.length = 1)) = false := by simp [one7 rfl]
    simp only [cnt_rd k16 t1, f2, failS_f, kids_rd (acc := []) hrd t2, f7]
    simp [hid, hlo, hhi, htx]
theorem pred_rd {b : List Nat} : ∀ {m : Nat} {p : Pr} {i j : Nat}, depN m p ≤ m → (∀ q ∈ subs p, FormP q ∧ PI q) → Sp b i (encP p) j → predF b m (at0 i) = (p, at0 j)
  | 0, p, i, j, hd, _, _ => by rw [depN] at hd; omega
  | m + 1, p, i, j, hd, hq, h => by
    have hp := hq p (by rw [subs_eq]; simp)
    have hs : ∀ k ∈ p.kids, ∀ q ∈ subs k, q ∈ subs p := fun k hk q hq => by
      rw [subs_eq, subsL_flat]
      exact List.mem_cons_of_mem _ (List.mem_flatMap.2 ⟨k, hk, hq⟩)
    refine predG_rd hp.1 hp.2 (fun h0 => ?_) (fun k hk i j hsp => pred_rd (depN_kid hd hk) (fun q hqk => hq q (hs k hk q hqk)) hsp) h
    obtain ⟨k, hk⟩ : ∃ k, k ∈ p.kids := List.exists_mem_of_length_pos h0
    have h1 := depN_kid hd hk
    cases m with
    | zero => rw [depN] at h1; omega
    | succ m => omega
/-- What is encoded is decoded, wherever it stands. -/
theorem pDec_enc {b : List Nat} {p : Pr} {i j : Nat} (hw : wellF p = true) (hi : ∀ q ∈ subs p, PI q) (h : Sp b i (encP p) j) : pDecF b i = (p, (j : Int), 0) := by
  simp only [wellF, Bool.and_eq_true, decide_eq_true_eq, List.all_eq_true] at hw
  have h1 := h.1; have h2 := h.2.1
  unfold pDecF
  rw [if_neg (by omega), pred_rd hw.1 (fun q hq => ⟨hw.2 q hq, hi q hq⟩) h]
  simp
end Go.Proofs.YtpblgfgcoamgmaaS
