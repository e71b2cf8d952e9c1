/-
  Predicates, plain: what is decoded without an error is the encoding of what is returned.
-/
import Derived.Test.YtpblgfgcoamgmaaQD
set_option linter.unusedVariables false
set_option linter.unusedSimpArgs false
namespace Go.Proofs.YtpblgfgcoamgmaaS
open Go Go.Proofs.YtpblgfgcoamgmaaV

/-- If the reading has ended well, it had begun well, and between the two stand the bytes x. -/
def RdS (b : List Nat) (s : Sc) (x : List Nat) (t : Sc) : Prop := t.2 = 0 → s.2 = 0 ∧ (0 ≤ s.1 → s.1 ≤ b.length → 0 ≤ t.1 ∧ Sp b s.1.toNat x t.1.toNat)
theorem RdS.trans {b x y : List Nat} {s t u : Sc} (h : RdS b s x t) (g : RdS b t y u) : RdS b s (x ++ y) u := fun e => by
  obtain ⟨g1, g2⟩ := g e
  obtain ⟨h1, h2⟩ := h g1
  refine ⟨h1, fun a0 a1 => ?_⟩
  obtain ⟨p1, p2⟩ := h2 a0 a1
  obtain ⟨q1, q2⟩ := g2 p1 (by have := p2.2.1; omega)
  exact ⟨q1, p2.trans q2⟩
theorem RdS.refl {b : List Nat} {s : Sc} : RdS b s [] s := fun e => ⟨e, fun a0 a1 => ⟨a0, Sp.refl (by omega)⟩⟩
theorem RdS.bad {b x : List Nat} {s t : Sc} (h : t.2 ≠ 0) : RdS b s x t := fun e => absurd e h
theorem failS_no {s : Sc} {e : Int} {w : Bool} (he : e ≠ 0) (h : (failS s e w).2 = 0) : s.2 = 0 ∧ w = false ∧ failS s e w = s := by
  unfold failS at h ⊢
  split at h
  · exact absurd h he
  · rename_i g
    rw [if_neg g]
    refine ⟨h, ?_, rfl⟩
    cases w
    · rfl
    · exact absurd ⟨h, rfl⟩ g
theorem fail_un {b : List Nat} {s : Sc} {e : Int} {w : Bool} (he : e ≠ 0) : RdS b s [] (failS s e w) := fun h => by
  obtain ⟨h1, _, h3⟩ := failS_no he h
  rw [h3]; exact RdS.refl h1
theorem readU_un {b : List Nat} (hb : Byt b) (s : Sc) (hs : s.2 = 0) : RdS b s (enc (readU b s.1).1) ((readU b s.1).2.1, (readU b s.1).2.2) := fun e => by
  refine ⟨hs, fun a0 a1 => ?_⟩
  obtain ⟨k, hk⟩ : ∃ k : Nat, s.1 = (k : Int) := ⟨s.1.toNat, by omega⟩
  rw [hk] at e ⊢
  obtain ⟨v, nx, r, hr⟩ : ∃ v nx r, readU b (k : Int) = (v, nx, r) := ⟨_, _, _, rfl⟩
  rw [hr] at e ⊢
  dsimp only at e ⊢
  have e0 : r = 0 := by omega
  subst e0
  obtain ⟨q1, q2, q3⟩ := readU_uniq hb (by omega) hr
  exact ⟨by omega, by omega, by omega, by simpa using q3⟩
theorem nxU_un {b : List Nat} (hb : Byt b) (s : Sc) : RdS b s (enc (nxU b s).1) (nxU b s).2 := by
  unfold nxU
  by_cases h : s.2 = 0
  · rw [if_pos h]; exact readU_un hb s h
  · rw [if_neg h]; exact RdS.bad h
theorem nxS_un {b : List Nat} (hb : Byt b) (s : Sc) : RdS b s (enc (zig (nxS b s).1)) (nxS b s).2 := by
  unfold nxS
  by_cases h : s.2 = 0
  · rw [if_pos h]; dsimp only; rw [zig_unzig]; exact readU_un hb s h
  · rw [if_neg h]; exact RdS.bad h
theorem nxS_I {b : List Nat} (hb : Byt b) (s : Sc) : I64' (nxS b s).1 := by
  unfold nxS
  split
  · have h := (readU_spec b s.1 hb).1
    dsimp only
    unfold unzig I64'
    split <;> omega
  · exact (show I64' 0 from ⟨by decide, by decide⟩)
theorem pSb_strN {l : List Nat} (h : Byt l) : sb (strN l) = l := by
  have h1 : ∀ (l : List Nat) (r : ByteArray), Byt l → sb ((l.map fun c => ((c : Nat) : Int)).foldl (fun r n => r.push (UInt8.ofNat n.toNat)) r) = sb r ++ l := by
    intro l
    induction l with
    | nil => intro r _; simp
    | cons c l ih =>
      intro r hb
      rw [List.map_cons, List.foldl_cons, ih _ fun x hx => hb x (by simp [hx])]
      have hc := hb c (by simp)
      have : (UInt8.ofNat c).toNat = c := by simp; omega
      simp [sb, ByteArray.push, this]
  unfold strN strOfI
  have e : (bs l).map byteOfD = l.map fun c => ((c : Nat) : Int) := by simp [bs, byteOfD, Function.comp_def]
  rw [e, h1 l _ h]
  rfl
theorem nxT_un {b : List Nat} (hb : Byt b) (s : Sc) : RdS b s (enc (nxT b s).1.size ++ sb (nxT b s).1) (nxT b s).2 := by
  unfold nxT
  by_cases h : s.2 = 0
  · rw [if_pos h]
    dsimp only
    intro e
    dsimp only at e
    refine ⟨h, fun a0 a1 => ?_⟩
    obtain ⟨k, hk⟩ : ∃ k : Nat, s.1 = (k : Int) := ⟨s.1.toNat, by omega⟩
    rw [hk] at e ⊢
    obtain ⟨n, nx, r, hr⟩ : ∃ n nx r, readU b (k : Int) = (n, nx, r) := ⟨_, _, _, rfl⟩
    have hsp : spanF b (k : Nat) = if r ≠ 0 then (0, 0, r) else if 1048576 < n then (0, 0, 2) else if b.length < nx + n then (0, 0, 6) else (nx, nx + n, 0) := by
      unfold spanF; rw [hr]
    by_cases he : r = 0
    case neg => rw [hsp, if_pos he] at e; dsimp only at e; omega
    subst he
    by_cases hn : 1048576 < n
    · rw [hsp, if_neg (by simp), if_pos hn] at e; simp at e
    by_cases hl : b.length < nx + n
    · rw [hsp, if_neg (by simp), if_neg hn, if_pos hl] at e; simp at e
    have hS : spanF b (k : Nat) = (nx, nx + n, 0) := by rw [hsp, if_neg (by simp), if_neg hn, if_neg hl]
    rw [hS]
    dsimp only
    obtain ⟨q1, q2, q3⟩ := readU_uniq hb (by omega) hr
    have hcl : ((b.drop nx).take (nx + n - nx)).length = n := by simp; omega
    have hbc : Byt ((b.drop nx).take (nx + n - nx)) := fun x hx => hb x (List.mem_of_mem_drop (List.mem_of_mem_take hx))
    have hsb := pSb_strN hbc
    have hsz : (strN ((b.drop nx).take (nx + n - nx))).size = n := by rw [← sb_length, hsb, hcl]
    refine ⟨by omega, by omega, by omega, ?_⟩
    rw [hsz, hsb, ← List.append_assoc]
    simp only [Int.toNat_natCast]
    rw [q3, Nat.add_sub_cancel_left, List.take_add]
  · rw [if_neg h]; exact RdS.bad h
theorem txt_un {b : List Nat} (hb : Byt b) (s : Sc) : RdS b s (enc (txtF b s).1.size ++ sb (txtF b s).1) (txtF b s).2 ∧ ((txtF b s).2.2 = 0 → (txtF b s).1.size ≤ 200) := by
  refine ⟨?_, fun h => ?_⟩
  · have := (nxT_un hb s).trans (fail_un (s := (nxT b s).2) (e := 2) (w := decide (200 < ((nxT b s).1.size : Int))) (by decide))
    rw [List.append_nil] at this
    exact this
  · obtain ⟨_, h2, _⟩ := failS_no (by decide) h
    have := of_decide_eq_false h2
    show (nxT b s).1.size ≤ 200
    omega
theorem cnt_un {b : List Nat} (hb : Byt b) (s : Sc) : RdS b s (enc (cntF b s).1) (cntF b s).2 := by
  unfold cntF
  dsimp only
  by_cases h : (failS (nxU b s).2 2 (decide (16 < ((nxU b s).1 : Int)))).2 = 0
  · rw [if_pos h]
    have := (nxU_un hb s).trans (fail_un (s := (nxU b s).2) (e := 2) (w := decide (16 < ((nxU b s).1 : Int))) (by decide))
    rw [List.append_nil] at this
    exact this
  · rw [if_neg h]; exact RdS.bad h
theorem one_un {b : List Nat} (m : Nat) (s : Sc) : RdS b s [(oneF b m s).1] (oneF b m s).2 ∧ ((oneF b m s).2.2 = 0 → (oneF b m s).1 ≤ m) := by
  unfold oneF
  by_cases h : s.2 = 0
  · rw [if_neg (by simpa using h)]
    by_cases h1 : (b.length : Int) ≤ s.1
    · rw [if_pos h1]; exact ⟨RdS.bad (by simp), fun e => by simp at e⟩
    · rw [if_neg h1]
      dsimp only
      refine ⟨fun e => ?_, fun e => ?_⟩
      · obtain ⟨_, e2, e3⟩ := failS_no (by decide) e
        rw [e3]
        refine ⟨h, fun a0 a1 => ?_⟩
        dsimp only
        refine ⟨by omega, by omega, by omega, ?_⟩
        rw [show (s.1 + 1).toNat = s.1.toNat + 1 by omega, List.take_add_one]
        have hl : s.1.toNat < b.length := by omega
        simp [List.getD, List.getElem?_eq_getElem hl]
      · obtain ⟨_, e2, e3⟩ := failS_no (by decide) e
        have := of_decide_eq_false e2
        omega
  · rw [if_pos h]; exact ⟨RdS.bad h, fun e => absurd e h⟩
theorem vals_un {b : List Nat} (hb : Byt b) : ∀ (n : Nat) (acc : List Vl) (s : Sc), ∃ vs, (valsF b n acc s).1 = acc ++ vs ∧ vs.length = n ∧ RdS b s (vs.flatMap encVl) (valsF b n acc s).2 ∧ (∀ v ∈ vs, I64' v.n) ∧ ((valsF b n acc s).2.2 = 0 → ∀ v ∈ vs, v.s.size ≤ 200)
  | 0, acc, s => ⟨[], by simp [valsF], rfl, RdS.refl, by simp, by simp⟩
  | n + 1, acc, s => by
    obtain ⟨h1, h1'⟩ := one_un (b := b) 1 s
    have h2 := nxS_un hb (oneF b 1 s).2
    have h2' := nxS_I hb (oneF b 1 s).2
    obtain ⟨h3, h3'⟩ := txt_un hb (nxS b (oneF b 1 s).2).2
    rw [valsF]
    obtain ⟨vs, e1, e2, e3, e4, e5⟩ := vals_un hb n (acc ++ [⟨decide ((oneF b 1 s).1 = 1), (nxS b (oneF b 1 s).2).1, (txtF b (nxS b (oneF b 1 s).2).2).1⟩]) (txtF b (nxS b (oneF b 1 s).2).2).2
    refine ⟨⟨decide ((oneF b 1 s).1 = 1), (nxS b (oneF b 1 s).2).1, (txtF b (nxS b (oneF b 1 s).2).2).1⟩ :: vs, by rw [e1]; simp, by simp [e2], ?_, ?_, ?_⟩
    · intro e
      have g3 := (e3 e).1
      have g2 := (h3 g3).1
      have g1 := (h2 g2).1
      have hc := h1' g1
      have := (((h1.trans h2).trans h3).trans e3) e
      rw [List.flatMap_cons, encVl]
      have hbit : bit (decide ((oneF b 1 s).1 = 1)) = (oneF b 1 s).1 := by
        unfold bit
        by_cases k : (oneF b 1 s).1 = 1
        · simp [k]
        · have : (oneF b 1 s).1 = 0 := by omega
          simp [this]
      rw [hbit]
      simpa using this
    · intro v hv
      rcases List.mem_cons.1 hv with rfl | hv
      · exact h2'
      · exact e4 v hv
    · intro e v hv
      rcases List.mem_cons.1 hv with rfl | hv
      · exact h3' (e3 e).1
      · exact e5 e v hv
theorem kids_un {b : List Nat} {rd : Sc → Pr × Sc} {good : Pr → Prop} (hrd : ∀ s, RdS b s (encP (rd s).1) (rd s).2 ∧ ((rd s).2.2 = 0 → good (rd s).1)) :
    ∀ (n : Nat) (acc : List Pr) (s : Sc), ∃ ks, (kidsF rd n acc s).1 = acc ++ ks ∧ RdS b s (ks.flatMap encP) (kidsF rd n acc s).2 ∧ ((kidsF rd n acc s).2.2 = 0 → ks.length = n ∧ ∀ k ∈ ks, good k)
  | 0, acc, s => ⟨[], by simp [kidsF], RdS.refl, by simp⟩
  | n + 1, acc, s => by
    rw [kidsF]
    by_cases h : s.2 = 0
    · rw [if_pos h]
      obtain ⟨h1, h2⟩ := hrd s
      obtain ⟨ks, e1, e2, e3⟩ := kids_un hrd n (acc ++ [(rd s).1]) (rd s).2
      refine ⟨(rd s).1 :: ks, by rw [e1]; simp, ?_, fun e => ?_⟩
      · rw [List.flatMap_cons]; exact h1.trans e2
      · obtain ⟨f1, f2⟩ := e3 e
        refine ⟨by simp [f1], fun k hk => ?_⟩
        rcases List.mem_cons.1 hk with rfl | hk
        · exact h2 (e2 e).1
        · exact f2 k hk
    · rw [if_neg h]
      exact ⟨[], by simp, RdS.bad h, fun e => absurd e h⟩
theorem encP_leaf {p : Pr} (h : p.kids = []) : encP p = encH p := by rw [encP_eq, h]; simp
theorem subs_leaf {p : Pr} (h : p.kids = []) : subs p = [p] := by rw [subs_eq, h, subsL_nil]
def Good (m : Nat) (p : Pr) : Prop := (∀ q ∈ subs p, FormP q ∧ PI q) ∧ depN m p ≤ max m 1
theorem depN_pos (m : Nat) (p : Pr) (h : p.kids = []) : depN m p = 1 := by
  cases m with
  | zero => rfl
  | succ m => rw [depN, h]; rfl
theorem foldl_max_le {B : Nat} : ∀ {l : List Nat} {a : Nat}, a ≤ B → (∀ x ∈ l, x ≤ B) → l.foldl max a ≤ B
  | [], a, h, _ => h
  | x :: l, a, h, hl => by
    rw [List.foldl_cons]
    exact foldl_max_le (Nat.max_le.2 ⟨h, hl x (by simp)⟩) fun y hy => hl y (by simp [hy])
theorem good_leaf {m : Nat} {p : Pr} (h : p.kids = []) (hf : FormP p) (hi : PI p) : Good m p := by
  refine ⟨fun q hq => ?_, by rw [depN_pos m p h]; exact Nat.le_max_right _ _⟩
  rw [subs_leaf h] at hq
  simp only [List.mem_cons, List.not_mem_nil, or_false] at hq
  subst hq
  exact ⟨hf, hi⟩
theorem good_node {m : Nat} {p : Pr} (hm : p.kids = [] ∨ 1 ≤ m) (hf : FormP p) (hi : PI p) (hk : ∀ k ∈ p.kids, Good m k) : Good (m + 1) p := by
  rcases hm with hm | hm
  · exact good_leaf hm hf hi
  refine ⟨fun q hq => ?_, ?_⟩
  · rw [subs_eq, subsL_flat] at hq
    rcases List.mem_cons.1 hq with rfl | hq
    · exact ⟨hf, hi⟩
    · obtain ⟨k, hkm, hq⟩ := List.mem_flatMap.1 hq
      exact (hk k hkm).1 q hq
  · rw [depN]
    have : (p.kids.map (depN m)).foldl max 0 ≤ m := foldl_max_le (by omega) fun x hx => by
      obtain ⟨k, hkm, rfl⟩ := List.mem_map.1 hx
      have := (hk k hkm).2
      omega
    omega
set_option maxHeartbeats 1000000 in
theorem predG_un {b : List Nat} (hb : Byt b) {m : Nat} {rd : Sc → Pr × Sc} {good : Pr → Prop} (hrd : 2 ≤ m → ∀ s, RdS b s (encP (rd s).1) (rd s).2 ∧ ((rd s).2.2 = 0 → good (rd s).1)) (s : Sc) :
    RdS b s (encP (predG b m rd s).1) (predG b m rd s).2 ∧ ((predG b m rd s).2.2 = 0 → FormP (predG b m rd s).1 ∧ PI (predG b m rd s).1 ∧ ((predG b m rd s).1.kids = [] ∨ 2 ≤ m ∧ ∀ k ∈ (predG b m rd s).1.kids, good k)) := by
  obtain ⟨h1, h1'⟩ := one_un (b := b) 7 s
  obtain ⟨o, s1, ho⟩ : ∃ o s1, oneF b 7 s = (o, s1) := ⟨_, _, rfl⟩
  rw [ho] at h1 h1'
  unfold predG
  rw [ho]
  dsimp only at h1 h1' ⊢
  obtain ⟨i, hi⟩ : ∃ i : Int × Sc, (if isAt (o : Int) then nxS b s1 else (0, s1)) = i := ⟨_, rfl⟩
  rw [hi]
  have h2 : RdS b s1 (if isAt (o : Int) then enc (zig i.1) else []) i.2 := by
    rw [← hi]
    by_cases k : isAt (o : Int) = true
    · rw [if_pos k, if_pos k]; exact nxS_un hb s1
    · rw [if_neg k, if_neg k]; exact RdS.refl
  have h2' : I64' i.1 := by
    rw [← hi]
    split
    · exact nxS_I hb s1
    · exact (show I64' 0 from ⟨by decide, by decide⟩)
  have h2z : isAt (o : Int) = false → i.1 = 0 := fun k => by rw [← hi, if_neg (by simp [k])]
  have hz : I64' 0 := ⟨by decide, by decide⟩
  clear hi ho
  by_cases o1 : o = 1
  · subst o1
    rw [if_pos rfl]
    have h3 := nxS_un hb i.2
    have h4 := nxS_un hb (nxS b i.2).2
    have i3 := nxS_I hb i.2
    have i4 := nxS_I hb (nxS b i.2).2
    refine ⟨?_, fun e => ⟨⟨(show 0 ≤ ((1 : Nat) : Int) ∧ ((1 : Nat) : Int) ≤ 7 by decide), rfl, rfl, rfl, rfl, rfl, rfl, by simp [Pr.set], by simp [Pr.kids], fun h => (by cases h), (show ByteArray.empty.size ≤ 200 by decide), fun v hv => (by cases hv)⟩, ⟨h2', i3, i4, fun v hv => (by cases hv)⟩, .inl rfl⟩⟩
    rw [encP_leaf rfl]
    have := ((h1.trans h2).trans h3).trans h4
    simpa [encH, Pr.op, Pr.id, Pr.lo, Pr.hi, isAt] using this
  rw [if_neg o1]
  by_cases o2 : o = 2
  · subst o2
    rw [if_pos rfl]
    have h3 := cnt_un hb i.2
    have hc16 := cntF_le (b := b) (s := i.2)
    obtain ⟨vs, e1, e2, e3, e4, e5⟩ := vals_un hb (cntF b i.2).1 [] (cntF b i.2).2
    rw [List.nil_append] at e1
    refine ⟨?_, fun e => ⟨⟨(show 0 ≤ ((2 : Nat) : Int) ∧ ((2 : Nat) : Int) ≤ 7 by decide), rfl, rfl, rfl, rfl, rfl, rfl, by simp only [Pr.set]; rw [e1]; omega, by simp [Pr.kids], fun h => (by cases h), (show ByteArray.empty.size ≤ 200 by decide), fun v hv => e5 e v (by simpa only [Pr.set, e1] using hv)⟩, ⟨h2', hz, hz, fun v hv => e4 v (by simpa only [Pr.set, e1] using hv)⟩, .inl rfl⟩⟩
    rw [encP_leaf rfl]
    have := ((h1.trans h2).trans h3).trans e3
    rw [← e1] at this
    rw [← e1] at e2
    rw [show enc (cntF b i.2).1 = enc (valsF b (cntF b i.2).1 [] (cntF b i.2).2).1.length by rw [e2]] at this
    simpa [encH, Pr.op, Pr.id, Pr.set, isAt] using this
  rw [if_neg o2]
  by_cases o3 : o = 3
  · subst o3
    rw [if_pos rfl]
    obtain ⟨h3, h3'⟩ := txt_un hb i.2
    refine ⟨?_, fun e => ⟨⟨(show 0 ≤ ((3 : Nat) : Int) ∧ ((3 : Nat) : Int) ≤ 7 by decide), rfl, rfl, rfl, rfl, rfl, rfl, by simp [Pr.set], by simp [Pr.kids], fun h => (by cases h), h3' e, fun v hv => (by cases hv)⟩, ⟨h2', hz, hz, fun v hv => (by cases hv)⟩, .inl rfl⟩⟩
    rw [encP_leaf rfl]
    have := (h1.trans h2).trans h3
    simpa [encH, Pr.op, Pr.id, Pr.text, isAt] using this
  rw [if_neg o3]
  by_cases o567 : o = 5 ∨ o = 6 ∨ o = 7
  · rw [if_pos o567]
    have ha : isAt (o : Int) = false := by rcases o567 with rfl | rfl | rfl <;> rfl
    have i0 := h2z ha
    have h3 := cnt_un hb i.2
    have hc16 := cntF_le (b := b) (s := i.2)
    obtain ⟨n, s2, hc⟩ : ∃ n s2, cntF b i.2 = (n, s2) := ⟨_, _, rfl⟩
    rw [hc] at h3 hc16 ⊢
    dsimp only at h3 hc16 ⊢
    obtain ⟨s3, hs3⟩ : ∃ s3, failS s2 5 (decide (o = 7) && decide (n ≠ 1)) = s3 := ⟨_, rfl⟩
    obtain ⟨s4, hs4⟩ : ∃ s4, failS s3 2 (decide (0 < n) && decide (m < 2)) = s4 := ⟨_, rfl⟩
    rw [hs3, hs4]
    by_cases hm : 2 ≤ m
    · obtain ⟨ks, k1, k2, k3⟩ := kids_un (hrd hm) n [] s4
      rw [List.nil_append] at k1
      have f4 : RdS b s3 [] s4 := by rw [← hs4]; exact fail_un (by decide)
      have f3 : RdS b s2 [] s3 := by rw [← hs3]; exact fail_un (by decide)
      refine ⟨fun e => ?_, fun e => ?_⟩
      · obtain ⟨l1, l2⟩ := k3 e
        subst l1
        have := ((((h1.trans h2).trans h3).trans f3).trans f4).trans k2
        rw [encP_eq]
        simp only [Pr.kids, k1]
        have this := this e
        rcases o567 with rfl | rfl | rfl <;> simpa [encH, Pr.op, Pr.id, Pr.kids, k1, isAt] using this
      · obtain ⟨l1, l2⟩ := k3 e
        have g4 := (k2 e).1
        have g3 := (f4 g4).1
        have w7 : (decide (o = 7) && decide (n ≠ 1)) = false := by
          rw [← hs3] at g3
          exact (failS_no (by decide) g3).2.1
        simp only [Pr.kids, k1]
        refine ⟨?_, ⟨h2', hz, hz, fun v hv => (by cases hv)⟩, .inr ⟨hm, l2⟩⟩
        rcases o567 with rfl | rfl | rfl
        · exact ⟨(show 0 ≤ ((5 : Nat) : Int) ∧ ((5 : Nat) : Int) ≤ 7 by decide), i0, rfl, rfl, rfl, rfl, rfl, by simp [Pr.set], by simp only [Pr.kids]; omega, fun h => (by cases h), (show ByteArray.empty.size ≤ 200 by decide), fun v hv => (by cases hv)⟩
        · exact ⟨(show 0 ≤ ((6 : Nat) : Int) ∧ ((6 : Nat) : Int) ≤ 7 by decide), i0, rfl, rfl, rfl, rfl, rfl, by simp [Pr.set], by simp only [Pr.kids]; omega, fun h => (by cases h), (show ByteArray.empty.size ≤ 200 by decide), fun v hv => (by cases hv)⟩
        · exact ⟨(show 0 ≤ ((7 : Nat) : Int) ∧ ((7 : Nat) : Int) ≤ 7 by decide), i0, rfl, rfl, rfl, rfl, rfl, by simp [Pr.set], by simp only [Pr.kids]; omega, fun _ => (by simp at w7; simp only [Pr.kids]; omega), (show ByteArray.empty.size ≤ 200 by decide), fun v hv => (by cases hv)⟩
    · by_cases hn : n = 0
      · subst hn
        have f4 : RdS b s3 [] s4 := by rw [← hs4]; exact fail_un (by decide)
        have f3 : RdS b s2 [] s3 := by rw [← hs3]; exact fail_un (by decide)
        simp only [kidsF]
        have := (((h1.trans h2).trans h3).trans f3).trans f4
        refine ⟨?_, fun e => ?_⟩
        · rw [encP_leaf rfl]
          rcases o567 with rfl | rfl | rfl <;> simpa [encH, Pr.op, Pr.id, Pr.kids, isAt] using this
        · have g3 := (f4 e).1
          have w7 : (decide (o = 7) && decide (0 ≠ 1)) = false := by
            rw [← hs3] at g3
            exact (failS_no (by decide) g3).2.1
          refine ⟨?_, ⟨h2', hz, hz, fun v hv => (by cases hv)⟩, .inl rfl⟩
          rcases o567 with rfl | rfl | rfl
          · exact ⟨(show 0 ≤ ((5 : Nat) : Int) ∧ ((5 : Nat) : Int) ≤ 7 by decide), i0, rfl, rfl, rfl, rfl, rfl, by simp [Pr.set], by simp [Pr.kids], fun h => (by cases h), (show ByteArray.empty.size ≤ 200 by decide), fun v hv => (by cases hv)⟩
          · exact ⟨(show 0 ≤ ((6 : Nat) : Int) ∧ ((6 : Nat) : Int) ≤ 7 by decide), i0, rfl, rfl, rfl, rfl, rfl, by simp [Pr.set], by simp [Pr.kids], fun h => (by cases h), (show ByteArray.empty.size ≤ 200 by decide), fun v hv => (by cases hv)⟩
          · simp at w7
      · have h4 : s4.2 ≠ 0 := by
          intro e
          rw [← hs4] at e
          have := (failS_no (by decide) e).2.1
          simp at this; omega
        obtain ⟨n', rfl⟩ : ∃ n', n = n' + 1 := ⟨n - 1, by omega⟩
        simp only [kidsF, if_neg h4]
        exact ⟨RdS.bad h4, fun e => absurd e h4⟩
  · rw [if_neg o567]
    refine ⟨?_, fun e => ?_⟩
    · rw [encP_leaf rfl]
      have := h1.trans h2
      have d1 : ¬ (o : Int) = 1 := by omega
      have d2 : ¬ (o : Int) = 2 := by omega
      have d3 : ¬ (o : Int) = 3 := by omega
      have d5 : ¬ (5 ≤ (o : Int) ∧ (o : Int) ≤ 7) := by omega
      have hE : encH (.mk (o : Int) i.1 0 0 [] ByteArray.empty []) = o :: (if isAt (o : Int) then enc (zig i.1) else []) := by
        show _ :: ((if isAt (o : Int) then enc (zig i.1) else []) ++ (if (o : Int) = 1 then _ else if (o : Int) = 2 then _ else if (o : Int) = 3 then _ else if 5 ≤ (o : Int) ∧ (o : Int) ≤ 7 then _ else [])) = _
        rw [if_neg d1, if_neg d2, if_neg d3, if_neg d5, List.append_nil]; rfl
      rw [hE]
      exact this
    · have h7 := h1' ((h2 e).1)
      have o04 : o = 0 ∨ o = 4 := by omega
      rcases o04 with rfl | rfl
      · have i0 := h2z rfl
        refine ⟨⟨(show 0 ≤ ((0 : Nat) : Int) ∧ ((0 : Nat) : Int) ≤ 7 by decide), i0, rfl, rfl, rfl, rfl, rfl, by simp [Pr.set], by simp [Pr.kids], fun h => (by cases h), (show ByteArray.empty.size ≤ 200 by decide), fun v hv => (by cases hv)⟩, ⟨h2', hz, hz, fun v hv => (by cases hv)⟩, .inl rfl⟩
      · refine ⟨⟨(show 0 ≤ ((4 : Nat) : Int) ∧ ((4 : Nat) : Int) ≤ 7 by decide), rfl, rfl, rfl, rfl, rfl, rfl, by simp [Pr.set], by simp [Pr.kids], fun h => (by cases h), (show ByteArray.empty.size ≤ 200 by decide), fun v hv => (by cases hv)⟩, ⟨h2', hz, hz, fun v hv => (by cases hv)⟩, .inl rfl⟩
theorem pred_un {b : List Nat} (hb : Byt b) : ∀ (m : Nat) (s : Sc), RdS b s (encP (predF b m s).1) (predF b m s).2 ∧ ((predF b m s).2.2 = 0 → Good m (predF b m s).1)
  | 0, s => by
    obtain ⟨h1, h2⟩ := predG_un hb (m := 0) (rd := fun s => (Pr.nul, s)) (good := fun _ => True) (fun h => by omega) s
    refine ⟨h1, fun e => ?_⟩
    obtain ⟨f, i, k⟩ := h2 e
    rcases k with k | k
    · exact good_leaf k f i
    · omega
  | m + 1, s => by
    obtain ⟨h1, h2⟩ := predG_un hb (m := m + 1) (rd := predF b m) (good := Good m) (fun _ s => pred_un hb m s) s
    refine ⟨h1, fun e => ?_⟩
    obtain ⟨f, i, k⟩ := h2 e
    rcases k with k | k
    · exact good_leaf k f i
    · exact good_node (.inr (by omega)) f i k.2
/-- What is decoded without an error is the encoding of what is returned. -/
theorem pDec_un {b : List Nat} (hb : Byt b) {k : Nat} (hk : k ≤ b.length) (h : (pDecF b (k : Int)).2.2 = 0) :
    ∃ j : Nat, (pDecF b (k : Int)).2.1 = j ∧ k < j ∧ j ≤ b.length ∧ wellF (pDecF b (k : Int)).1 = true ∧ encP (pDecF b (k : Int)).1 = (b.take j).drop k ∧ ∀ q ∈ subs (pDecF b (k : Int)).1, PI q := by
  unfold pDecF at h ⊢
  have hc : ¬ ((k : Int) < 0 ∨ (b.length : Int) < k) := by omega
  rw [if_neg hc] at h ⊢
  obtain ⟨h1, h2⟩ := pred_un hb 8 ((k : Int), 0)
  dsimp only at h ⊢
  by_cases e : (predF b 8 ((k : Int), 0)).2.2 = 0
  · rw [if_pos e]
    obtain ⟨g1, g2⟩ := h2 e
    obtain ⟨a1, a2⟩ := (h1 e).2 (by dsimp only; omega) (by dsimp only; omega)
    dsimp only at a2 ⊢
    rw [Int.toNat_natCast] at a2
    have hl := a2.len
    have hpos : 0 < (encP (predF b 8 ((k : Int), 0)).1).length := by rw [encP_eq, encH]; simp
    refine ⟨_, (Int.toNat_of_nonneg a1).symm, by omega, a2.2.1, ?_, ?_, fun q hq => (g1 q hq).2⟩
    · simp only [wellF, Bool.and_eq_true, decide_eq_true_eq, List.all_eq_true]
      exact ⟨g2, fun q hq => (g1 q hq).1⟩
    · rw [← a2.2.2, List.drop_append_of_le_length (by rw [a2.pre]; omega), List.drop_of_length_le (by rw [a2.pre]; omega), List.nil_append]
  · rw [if_neg e] at h; exact absurd h e
end Go.Proofs.YtpblgfgcoamgmaaS
