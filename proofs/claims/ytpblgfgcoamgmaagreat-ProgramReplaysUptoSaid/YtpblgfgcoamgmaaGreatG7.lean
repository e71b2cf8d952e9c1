/-
  Texts of this proof, merged: QE QM QN QP T8 T9 TA TS TR QR TU TP V34 TV ME TE TL.
  Conditions: as said at each part.
-/
import Derived.Test.YtpblgfgcoamgmaaGreatG6
set_option linter.unusedVariables false
set_option linter.unusedSimpArgs false
namespace Go.Proofs.YtpblgfgcoamgmaaGreatS
open Go Go.Proofs.YtpblgfgcoamgmaaGreatV

def RdS (b : List Nat) (s : Sc) (x : List Nat) (t : Sc) : Prop := t.2 = 0 → s.2 = 0 ∧ (0 ≤ s.1 → s.1 ≤ b.length → 0 ≤ t.1 ∧ Sp b s.1.toNat x t.1.toNat)
theorem RdS.trans {b x y : List Nat} {s t u : Sc} (h : RdS b s x t) (g : RdS b t y u) : RdS b s (x ++ y) u := fun e => by
  obtain ⟨g1, g2⟩ := g e
  obtain ⟨h1, h2⟩ := h g1
  refine ⟨h1, fun a0 a1 => ?_⟩
  obtain ⟨p1, p2⟩ := h2 a0 a1
  obtain ⟨q1, q2⟩ := g2 p1 (by have := p2.2.1; omega)
  exact ⟨q1, p2.trans q2⟩
theorem RdS.refl {b : List Nat} {s : Sc} : RdS b s [] s := fun e => ⟨e, fun a0 a1 => ⟨a0, Sp.refl (by omega)⟩⟩
theorem RdS.bad {b x : List Nat} {s t : Sc} (h : t.2 ≠ 0) : RdS b s x t := fun e => absurd e h
theorem failS_no {s : Sc} {e : Int} {w : Bool} (he : e ≠ 0) (h : (failS s e w).2 = 0) : s.2 = 0 ∧ w = false ∧ failS s e w = s := by
  unfold failS at h ⊢
  split at h
  · exact absurd h he
  · rename_i g
    rw [if_neg g]
    refine ⟨h, ?_, rfl⟩
    cases w
    · rfl
    · exact absurd ⟨h, rfl⟩ g
theorem fail_un {b : List Nat} {s : Sc} {e : Int} {w : Bool} (he : e ≠ 0) : RdS b s [] (failS s e w) := fun h => by
  obtain ⟨h1, _, h3⟩ := failS_no he h
  rw [h3]; exact RdS.refl h1
theorem readU_un {b : List Nat} (hb : Byt b) (s : Sc) (hs : s.2 = 0) : RdS b s (enc (readU b s.1).1) ((readU b s.1).2.1, (readU b s.1).2.2) := fun e => by
  refine ⟨hs, fun a0 a1 => ?_⟩
  obtain ⟨k, hk⟩ : ∃ k : Nat, s.1 = (k : Int) := ⟨s.1.toNat, by omega⟩
  rw [hk] at e ⊢
  obtain ⟨v, nx, r, hr⟩ : ∃ v nx r, readU b (k : Int) = (v, nx, r) := ⟨_, _, _, rfl⟩
  rw [hr] at e ⊢
  dsimp only at e ⊢
  have e0 : r = 0 := by omega
  subst e0
  obtain ⟨q1, q2, q3⟩ := readU_uniq hb (by omega) hr
  exact ⟨by omega, by omega, by omega, by simpa using q3⟩
theorem nxU_un {b : List Nat} (hb : Byt b) (s : Sc) : RdS b s (enc (nxU b s).1) (nxU b s).2 := by
  unfold nxU
  by_cases h : s.2 = 0
  · rw [if_pos h]; exact readU_un hb s h
  · rw [if_neg h]; exact RdS.bad h
theorem nxS_un {b : List Nat} (hb : Byt b) (s : Sc) : RdS b s (enc (zig (nxS b s).1)) (nxS b s).2 := by
  unfold nxS
  by_cases h : s.2 = 0
  · rw [if_pos h]; dsimp only; rw [zig_unzig]; exact readU_un hb s h
  · rw [if_neg h]; exact RdS.bad h
theorem nxS_I {b : List Nat} (hb : Byt b) (s : Sc) : I64' (nxS b s).1 := by
  unfold nxS
  split
  · have h := (readU_spec b s.1 hb).1
    dsimp only
    unfold unzig I64'
    split <;> omega
  · exact (show I64' 0 from ⟨by decide, by decide⟩)
theorem pSb_strN {l : List Nat} (h : Byt l) : sb (strN l) = l := by
  have h1 : ∀ (l : List Nat) (r : ByteArray), Byt l → sb ((l.map fun c => ((c : Nat) : Int)).foldl (fun r n => r.push (UInt8.ofNat n.toNat)) r) = sb r ++ l := by
    intro l
    induction l with
    | nil => intro r _; simp
    | cons c l ih =>
      intro r hb
      rw [List.map_cons, List.foldl_cons, ih _ fun x hx => hb x (by simp [hx])]
      have hc := hb c (by simp)
      have : (UInt8.ofNat c).toNat = c := by simp; omega
      simp [sb, ByteArray.push, this]
  unfold strN strOfI
  have e : (bs l).map byteOfD = l.map fun c => ((c : Nat) : Int) := by simp [bs, byteOfD, Function.comp_def]
  rw [e, h1 l _ h]
  rfl
theorem nxT_un {b : List Nat} (hb : Byt b) (s : Sc) : RdS b s (enc (nxT b s).1.size ++ sb (nxT b s).1) (nxT b s).2 := by
  unfold nxT
  by_cases h : s.2 = 0
  · rw [if_pos h]
    dsimp only
    intro e
    dsimp only at e
    refine ⟨h, fun a0 a1 => ?_⟩
    obtain ⟨k, hk⟩ : ∃ k : Nat, s.1 = (k : Int) := ⟨s.1.toNat, by omega⟩
    rw [hk] at e ⊢
    obtain ⟨n, nx, r, hr⟩ : ∃ n nx r, readU b (k : Int) = (n, nx, r) := ⟨_, _, _, rfl⟩
    have hsp : spanF b (k : Nat) = if r ≠ 0 then (0, 0, r) else if 1048576 < n then (0, 0, 2) else if b.length < nx + n then (0, 0, 6) else (nx, nx + n, 0) := by
      unfold spanF; rw [hr]
    by_cases he : r = 0
    case neg => rw [hsp, if_pos he] at e; dsimp only at e; omega
    subst he
    by_cases hn : 1048576 < n
    · rw [hsp, if_neg (by simp), if_pos hn] at e; simp at e
    by_cases hl : b.length < nx + n
    · rw [hsp, if_neg (by simp), if_neg hn, if_pos hl] at e; simp at e
    have hS : spanF b (k : Nat) = (nx, nx + n, 0) := by rw [hsp, if_neg (by simp), if_neg hn, if_neg hl]
    rw [hS]
    dsimp only
    obtain ⟨q1, q2, q3⟩ := readU_uniq hb (by omega) hr
    have hcl : ((b.drop nx).take (nx + n - nx)).length = n := by simp; omega
    have hbc : Byt ((b.drop nx).take (nx + n - nx)) := fun x hx => hb x (List.mem_of_mem_drop (List.mem_of_mem_take hx))
    have hsb := pSb_strN hbc
    have hsz : (strN ((b.drop nx).take (nx + n - nx))).size = n := by rw [← sb_length, hsb, hcl]
    refine ⟨by omega, by omega, by omega, ?_⟩
    rw [hsz, hsb, ← List.append_assoc]
    simp only [Int.toNat_natCast]
    rw [q3, Nat.add_sub_cancel_left, List.take_add]
  · rw [if_neg h]; exact RdS.bad h
theorem txt_un {b : List Nat} (hb : Byt b) (s : Sc) : RdS b s (enc (txtF b s).1.size ++ sb (txtF b s).1) (txtF b s).2 ∧ ((txtF b s).2.2 = 0 → (txtF b s).1.size ≤ 200) := by
  refine ⟨?_, fun h => ?_⟩
  · have := (nxT_un hb s).trans (fail_un (s := (nxT b s).2) (e := 2) (w := decide (200 < ((nxT b s).1.size : Int))) (by decide))
    rw [List.append_nil] at this
    exact this
  · obtain ⟨_, h2, _⟩ := failS_no (by decide) h
    have := of_decide_eq_false h2
    show (nxT b s).1.size ≤ 200
    omega
theorem cnt_un {b : List Nat} (hb : Byt b) (s : Sc) : RdS b s (enc (cntF b s).1) (cntF b s).2 := by
  unfold cntF
  dsimp only
  by_cases h : (failS (nxU b s).2 2 (decide (16 < ((nxU b s).1 : Int)))).2 = 0
  · rw [if_pos h]
    have := (nxU_un hb s).trans (fail_un (s := (nxU b s).2) (e := 2) (w := decide (16 < ((nxU b s).1 : Int))) (by decide))
    rw [List.append_nil] at this
    exact this
  · rw [if_neg h]; exact RdS.bad h
theorem one_un {b : List Nat} (m : Nat) (s : Sc) : RdS b s [(oneF b m s).1] (oneF b m s).2 ∧ ((oneF b m s).2.2 = 0 → (oneF b m s).1 ≤ m) := by
  unfold oneF
  by_cases h : s.2 = 0
  · rw [if_neg (by simpa using h)]
    by_cases h1 : (b.length : Int) ≤ s.1
    · rw [if_pos h1]; exact ⟨RdS.bad (by simp), fun e => by simp at e⟩
    · rw [if_neg h1]
      dsimp only
      refine ⟨fun e => ?_, fun e => ?_⟩
      · obtain ⟨_, e2, e3⟩ := failS_no (by decide) e
        rw [e3]
        refine ⟨h, fun a0 a1 => ?_⟩
        dsimp only
        refine ⟨by omega, by omega, by omega, ?_⟩
        rw [show (s.1 + 1).toNat = s.1.toNat + 1 by omega, List.take_add_one]
        have hl : s.1.toNat < b.length := by omega
        simp [List.getD, List.getElem?_eq_getElem hl]
      · obtain ⟨_, e2, e3⟩ := failS_no (by decide) e
        have := of_decide_eq_false e2
        omega
  · rw [if_pos h]; exact ⟨RdS.bad h, fun e => absurd e h⟩
theorem vals_un {b : List Nat} (hb : Byt b) : ∀ (n : Nat) (acc : List Vl) (s : Sc), ∃ vs, (valsF b n acc s).1 = acc ++ vs ∧ vs.length = n ∧ RdS b s (vs.flatMap encVl) (valsF b n acc s).2 ∧ (∀ v ∈ vs, I64' v.n) ∧ ((valsF b n acc s).2.2 = 0 → ∀ v ∈ vs, v.s.size ≤ 200)
  | 0, acc, s => ⟨[], by simp [valsF], rfl, RdS.refl, by simp, by simp⟩
  | n + 1, acc, s => by
    obtain ⟨h1, h1'⟩ := one_un (b := b) 1 s
    have h2 := nxS_un hb (oneF b 1 s).2
    have h2' := nxS_I hb (oneF b 1 s).2
    obtain ⟨h3, h3'⟩ := txt_un hb (nxS b (oneF b 1 s).2).2
    rw [valsF]
    obtain ⟨vs, e1, e2, e3, e4, e5⟩ := vals_un hb n (acc ++ [⟨decide ((oneF b 1 s).1 = 1), (nxS b (oneF b 1 s).2).1, (txtF b (nxS b (oneF b 1 s).2).2).1⟩]) (txtF b (nxS b (oneF b 1 s).2).2).2
    refine ⟨⟨decide ((oneF b 1 s).1 = 1), (nxS b (oneF b 1 s).2).1, (txtF b (nxS b (oneF b 1 s).2).2).1⟩ :: vs, by rw [e1]; simp, by simp [e2], ?_, ?_, ?_⟩
    · intro e
      have g3 := (e3 e).1
      have g2 := (h3 g3).1
      have g1 := (h2 g2).1
      have hc := h1' g1
      have := (((h1.trans h2).trans h3).trans e3) e
      rw [List.flatMap_cons, encVl]
      have hbit : bit (decide ((oneF b 1 s).1 = 1)) = (oneF b 1 s).1 := by
        unfold bit
        by_cases k : (oneF b 1 s).1 = 1
        · simp [k]
        · have : (oneF b 1 s).1 = 0 := by omega
          simp [this]
      rw [hbit]
      simpa using this
    · intro v hv
      rcases List.mem_cons.1 hv with rfl | hv
      · exact h2'
      · exact e4 v hv
    · intro e v hv
      rcases List.mem_cons.1 hv with rfl | hv
      · exact h3' (e3 e).1
      · exact e5 e v hv
theorem kids_un {b : List Nat} {rd : Sc → Pr × Sc} {good : Pr → Prop} (hrd : ∀ s, RdS b s (encP (rd s).1) (rd s).2 ∧ ((rd s).2.2 = 0 → good (rd s).1)) :
    ∀ (n : Nat) (acc : List Pr) (s : Sc), ∃ ks, (kidsF rd n acc s).1 = acc ++ ks ∧ RdS b s (ks.flatMap encP) (kidsF rd n acc s).2 ∧ ((kidsF rd n acc s).2.2 = 0 → ks.length = n ∧ ∀ k ∈ ks, good k)
  | 0, acc, s => ⟨[], by simp [kidsF], RdS.refl, by simp⟩
  | n + 1, acc, s => by
    rw [kidsF]
    by_cases h : s.2 = 0
    · rw [if_pos h]
      obtain ⟨h1, h2⟩ := hrd s
      obtain ⟨ks, e1, e2, e3⟩ := kids_un hrd n (acc ++ [(rd s).1]) (rd s).2
      refine ⟨(rd s).1 :: ks, by rw [e1]; simp, ?_, fun e => ?_⟩
      · rw [List.flatMap_cons]; exact h1.trans e2
      · obtain ⟨f1, f2⟩ := e3 e
        refine ⟨by simp [f1], fun k hk => ?_⟩
        rcases List.mem_cons.1 hk with rfl | hk
        · exact h2 (e2 e).1
        · exact f2 k hk
    · rw [if_neg h]
      exact ⟨[], by simp, RdS.bad h, fun e => absurd e h⟩
theorem encP_leaf {p : Pr} (h : p.kids = []) : encP p = encH p := by rw [encP_eq, h]; simp
theorem subs_leafE {p : Pr} (h : p.kids = []) : subs p = [p] := by rw [subs_eq, h, subsL_nil]
def Good (m : Nat) (p : Pr) : Prop := (∀ q ∈ subs p, FormP q ∧ PI q) ∧ depN m p ≤ max m 1
theorem depN_pos (m : Nat) (p : Pr) (h : p.kids = []) : depN m p = 1 := by
  cases m with
  | zero => rfl
  | succ m => rw [depN, h]; rfl
theorem foldl_max_le {B : Nat} : ∀ {l : List Nat} {a : Nat}, a ≤ B → (∀ x ∈ l, x ≤ B) → l.foldl max a ≤ B
  | [], a, h, _ => h
  | x :: l, a, h, hl => by
    rw [List.foldl_cons]
    exact foldl_max_le (Nat.max_le.2 ⟨h, hl x (by simp)⟩) fun y hy => hl y (by simp [hy])
theorem good_leaf {m : Nat} {p : Pr} (h : p.kids = []) (hf : FormP p) (hi : PI p) : Good m p := by
  refine ⟨fun q hq => ?_, by rw [depN_pos m p h]; exact Nat.le_max_right _ _⟩
  rw [subs_leafE h] at hq
  simp only [List.mem_cons, List.not_mem_nil, or_false] at hq
  subst hq
  exact ⟨hf, hi⟩
theorem good_node {m : Nat} {p : Pr} (hm : p.kids = [] ∨ 1 ≤ m) (hf : FormP p) (hi : PI p) (hk : ∀ k ∈ p.kids, Good m k) : Good (m + 1) p := by
  rcases hm with hm | hm
  · exact good_leaf hm hf hi
  refine ⟨fun q hq => ?_, ?_⟩
  · rw [subs_eq, subsL_flat] at hq
    rcases List.mem_cons.1 hq with rfl | hq
    · exact ⟨hf, hi⟩
    · obtain ⟨k, hkm, hq⟩ := List.mem_flatMap.1 hq
      exact (hk k hkm).1 q hq
  · rw [depN]
    have : (p.kids.map (depN m)).foldl max 0 ≤ m := foldl_max_le (by omega) fun x hx => by
      obtain ⟨k, hkm, rfl⟩ := List.mem_map.1 hx
      have := (hk k hkm).2
      omega
    omega
set_option maxHeartbeats 1000000 in
theorem predG_un {b : List Nat} (hb : Byt b) {m : Nat} {rd : Sc → Pr × Sc} {good : Pr → Prop} (hrd : 2 ≤ m → ∀ s, RdS b s (encP (rd s).1) (rd s).2 ∧ ((rd s).2.2 = 0 → good (rd s).1)) (s : Sc) :
    RdS b s (encP (predG b m rd s).1) (predG b m rd s).2 ∧ ((predG b m rd s).2.2 = 0 → FormP (predG b m rd s).1 ∧ PI (predG b m rd s).1 ∧ ((predG b m rd s).1.kids = [] ∨ 2 ≤ m ∧ ∀ k ∈ (predG b m rd s).1.kids, good k)) := by
  obtain ⟨h1, h1'⟩ := one_un (b := b) 7 s
  obtain ⟨o, s1, ho⟩ : ∃ o s1, oneF b 7 s = (o, s1) := ⟨_, _, rfl⟩
  rw [ho] at h1 h1'
  unfold predG
  rw [ho]
  dsimp only at h1 h1' ⊢
  obtain ⟨i, hi⟩ : ∃ i : Int × Sc, (if isAt (o : Int) then nxS b s1 else (0, s1)) = i := ⟨_, rfl⟩
  rw [hi]
  have h2 : RdS b s1 (if isAt (o : Int) then enc (zig i.1) else []) i.2 := by
    rw [← hi]
    by_cases k : isAt (o : Int) = true
    · rw [if_pos k, if_pos k]; exact nxS_un hb s1
    · rw [if_neg k, if_neg k]; exact RdS.refl
  have h2' : I64' i.1 := by
    rw [← hi]
    split
    · exact nxS_I hb s1
    · exact (show I64' 0 from ⟨by decide, by decide⟩)
  have h2z : isAt (o : Int) = false → i.1 = 0 := fun k => by rw [← hi, if_neg (by simp [k])]
  have hz : I64' 0 := ⟨by decide, by decide⟩
  clear hi ho
  by_cases o1 : o = 1
  · subst o1
    rw [if_pos rfl]
    have h3 := nxS_un hb i.2
    have h4 := nxS_un hb (nxS b i.2).2
    have i3 := nxS_I hb i.2
    have i4 := nxS_I hb (nxS b i.2).2
    refine ⟨?_, fun e => ⟨⟨(show 0 ≤ ((1 : Nat) : Int) ∧ ((1 : Nat) : Int) ≤ 7 by decide), rfl, rfl, rfl, rfl, rfl, rfl, by simp [Pr.set], by simp [Pr.kids], fun h => (by cases h), (show ByteArray.empty.size ≤ 200 by decide), fun v hv => (by cases hv)⟩, ⟨h2', i3, i4, fun v hv => (by cases hv)⟩, .inl rfl⟩⟩
    rw [encP_leaf rfl]
    have := ((h1.trans h2).trans h3).trans h4
    simpa [encH, Pr.op, Pr.id, Pr.lo, Pr.hi, isAt] using this
  rw [if_neg o1]
  by_cases o2 : o = 2
  · subst o2
    rw [if_pos rfl]
    have h3 := cnt_un hb i.2
    have hc16 := cntF_le (b := b) (s := i.2)
    obtain ⟨vs, e1, e2, e3, e4, e5⟩ := vals_un hb (cntF b i.2).1 [] (cntF b i.2).2
    rw [List.nil_append] at e1
    refine ⟨?_, fun e => ⟨⟨(show 0 ≤ ((2 : Nat) : Int) ∧ ((2 : Nat) : Int) ≤ 7 by decide), rfl, rfl, rfl, rfl, rfl, rfl, by simp only [Pr.set]; rw [e1]; omega, by simp [Pr.kids], fun h => (by cases h), (show ByteArray.empty.size ≤ 200 by decide), fun v hv => e5 e v (by simpa only [Pr.set, e1] using hv)⟩, ⟨h2', hz, hz, fun v hv => e4 v (by simpa only [Pr.set, e1] using hv)⟩, .inl rfl⟩⟩
    rw [encP_leaf rfl]
    have := ((h1.trans h2).trans h3).trans e3
    rw [← e1] at this
    rw [← e1] at e2
    rw [show enc (cntF b i.2).1 = enc (valsF b (cntF b i.2).1 [] (cntF b i.2).2).1.length by rw [e2]] at this
    simpa [encH, Pr.op, Pr.id, Pr.set, isAt] using this
  rw [if_neg o2]
  by_cases o3 : o = 3
  · subst o3
    rw [if_pos rfl]
    obtain ⟨h3, h3'⟩ := txt_un hb i.2
    refine ⟨?_, fun e => ⟨⟨(show 0 ≤ ((3 : Nat) : Int) ∧ ((3 : Nat) : Int) ≤ 7 by decide), rfl, rfl, rfl, rfl, rfl, rfl, by simp [Pr.set], by simp [Pr.kids], fun h => (by cases h), h3' e, fun v hv => (by cases hv)⟩, ⟨h2', hz, hz, fun v hv => (by cases hv)⟩, .inl rfl⟩⟩
    rw [encP_leaf rfl]
    have := (h1.trans h2).trans h3
    simpa [encH, Pr.op, Pr.id, Pr.text, isAt] using this
  rw [if_neg o3]
  by_cases o567 : o = 5 ∨ o = 6 ∨ o = 7
  · rw [if_pos o567]
    have ha : isAt (o : Int) = false := by rcases o567 with rfl | rfl | rfl <;> rfl
    have i0 := h2z ha
    have h3 := cnt_un hb i.2
    have hc16 := cntF_le (b := b) (s := i.2)
    obtain ⟨n, s2, hc⟩ : ∃ n s2, cntF b i.2 = (n, s2) := ⟨_, _, rfl⟩
    rw [hc] at h3 hc16 ⊢
    dsimp only at h3 hc16 ⊢
    obtain ⟨s3, hs3⟩ : ∃ s3, failS s2 5 (decide (o = 7) && decide (n ≠ 1)) = s3 := ⟨_, rfl⟩
    obtain ⟨s4, hs4⟩ : ∃ s4, failS s3 2 (decide (0 < n) && decide (m < 2)) = s4 := ⟨_, rfl⟩
    rw [hs3, hs4]
    by_cases hm : 2 ≤ m
    · obtain ⟨ks, k1, k2, k3⟩ := kids_un (hrd hm) n [] s4
      rw [List.nil_append] at k1
      have f4 : RdS b s3 [] s4 := by rw [← hs4]; exact fail_un (by decide)
      have f3 : RdS b s2 [] s3 := by rw [← hs3]; exact fail_un (by decide)
      refine ⟨fun e => ?_, fun e => ?_⟩
      · obtain ⟨l1, l2⟩ := k3 e
        subst l1
        have := ((((h1.trans h2).trans h3).trans f3).trans f4).trans k2
        rw [encP_eq]
        simp only [Pr.kids, k1]
        have this := this e
        rcases o567 with rfl | rfl | rfl <;> simpa [encH, Pr.op, Pr.id, Pr.kids, k1, isAt] using this
      · obtain ⟨l1, l2⟩ := k3 e
        have g4 := (k2 e).1
        have g3 := (f4 g4).1
        have w7 : (decide (o = 7) && decide (n ≠ 1)) = false := by
          rw [← hs3] at g3
          exact (failS_no (by decide) g3).2.1
        simp only [Pr.kids, k1]
        refine ⟨?_, ⟨h2', hz, hz, fun v hv => (by cases hv)⟩, .inr ⟨hm, l2⟩⟩
        rcases o567 with rfl | rfl | rfl
        · exact ⟨(show 0 ≤ ((5 : Nat) : Int) ∧ ((5 : Nat) : Int) ≤ 7 by decide), i0, rfl, rfl, rfl, rfl, rfl, by simp [Pr.set], by simp only [Pr.kids]; omega, fun h => (by cases h), (show ByteArray.empty.size ≤ 200 by decide), fun v hv => (by cases hv)⟩
        · exact ⟨(show 0 ≤ ((6 : Nat) : Int) ∧ ((6 : Nat) : Int) ≤ 7 by decide), i0, rfl, rfl, rfl, rfl, rfl, by simp [Pr.set], by simp only [Pr.kids]; omega, fun h => (by cases h), (show ByteArray.empty.size ≤ 200 by decide), fun v hv => (by cases hv)⟩
        · exact ⟨(show 0 ≤ ((7 : Nat) : Int) ∧ ((7 : Nat) : Int) ≤ 7 by decide), i0, rfl, rfl, rfl, rfl, rfl, by simp [Pr.set], by simp only [Pr.kids]; omega, fun _ => (by simp at w7; simp only [Pr.kids]; omega), (show ByteArray.empty.size ≤ 200 by decide), fun v hv => (by cases hv)⟩
    · by_cases hn : n = 0
      · subst hn
        have f4 : RdS b s3 [] s4 := by rw [← hs4]; exact fail_un (by decide)
        have f3 : RdS b s2 [] s3 := by rw [← hs3]; exact fail_un (by decide)
        simp only [kidsF]
        have := (((h1.trans h2).trans h3).trans f3).trans f4
        refine ⟨?_, fun e => ?_⟩
        · rw [encP_leaf rfl]
          rcases o567 with rfl | rfl | rfl <;> simpa [encH, Pr.op, Pr.id, Pr.kids, isAt] using this
        · have g3 := (f4 e).1
          have w7 : (decide (o = 7) && decide (0 ≠ 1)) = false := by
            rw [← hs3] at g3
            exact (failS_no (by decide) g3).2.1
          refine ⟨?_, ⟨h2', hz, hz, fun v hv => (by cases hv)⟩, .inl rfl⟩
          rcases o567 with rfl | rfl | rfl
          · exact ⟨(show 0 ≤ ((5 : Nat) : Int) ∧ ((5 : Nat) : Int) ≤ 7 by decide), i0, rfl, rfl, rfl, rfl, rfl, by simp [Pr.set], by simp [Pr.kids], fun h => (by cases h), (show ByteArray.empty.size ≤ 200 by decide), fun v hv => (by cases hv)⟩
          · exact ⟨(show 0 ≤ ((6 : Nat) : Int) ∧ ((6 : Nat) : Int) ≤ 7 by decide), i0, rfl, rfl, rfl, rfl, rfl, by simp [Pr.set], by simp [Pr.kids], fun h => (by cases h), (show ByteArray.empty.size ≤ 200 by decide), fun v hv => (by cases hv)⟩
          · simp at w7
      · have h4 : s4.2 ≠ 0 := by
          intro e
          rw [← hs4] at e
          have := (failS_no (by decide) e).2.1
          simp at this; omega
        obtain ⟨n', rfl⟩ : ∃ n', n = n' + 1 := ⟨n - 1, by omega⟩
        simp only [kidsF, if_neg h4]
        exact ⟨RdS.bad h4, fun e => absurd e h4⟩
  · rw [if_neg o567]
    refine ⟨?_, fun e => ?_⟩
    · rw [encP_leaf rfl]
      have := h1.trans h2
      have d1 : ¬ (o : Int) = 1 := by omega
      have d2 : ¬ (o : Int) = 2 := by omega
      have d3 : ¬ (o : Int) = 3 := by omega
      have d5 : ¬ (5 ≤ (o : Int) ∧ (o : Int) ≤ 7) := by omega
      have hE : encH (.mk (o : Int) i.1 0 0 [] ByteArray.empty []) = o :: (if isAt (o : Int) then enc (zig i.1) else []) := by
        show _ :: ((if isAt (o : Int) then enc (zig i.1) else []) ++ (if (o : Int) = 1 then _ else if (o : Int) = 2 then _ else if (o : Int) = 3 then _ else if 5 ≤ (o : Int) ∧ (o : Int) ≤ 7 then _ else [])) = _
        rw [if_neg d1, if_neg d2, if_neg d3, if_neg d5, List.append_nil]; rfl
      rw [hE]
      exact this
    · have h7 := h1' ((h2 e).1)
      have o04 : o = 0 ∨ o = 4 := by omega
      rcases o04 with rfl | rfl
      · have i0 := h2z rfl
        refine ⟨⟨(show 0 ≤ ((0 : Nat) : Int) ∧ ((0 : Nat) : Int) ≤ 7 by decide), i0, rfl, rfl, rfl, rfl, rfl, by simp [Pr.set], by simp [Pr.kids], fun h => (by cases h), (show ByteArray.empty.size ≤ 200 by decide), fun v hv => (by cases hv)⟩, ⟨h2', hz, hz, fun v hv => (by cases hv)⟩, .inl rfl⟩
      · refine ⟨⟨(show 0 ≤ ((4 : Nat) : Int) ∧ ((4 : Nat) : Int) ≤ 7 by decide), rfl, rfl, rfl, rfl, rfl, rfl, by simp [Pr.set], by simp [Pr.kids], fun h => (by cases h), (show ByteArray.empty.size ≤ 200 by decide), fun v hv => (by cases hv)⟩, ⟨h2', hz, hz, fun v hv => (by cases hv)⟩, .inl rfl⟩
theorem pred_un {b : List Nat} (hb : Byt b) : ∀ (m : Nat) (s : Sc), RdS b s (encP (predF b m s).1) (predF b m s).2 ∧ ((predF b m s).2.2 = 0 → Good m (predF b m s).1)
  | 0, s => by
    obtain ⟨h1, h2⟩ := predG_un hb (m := 0) (rd := fun s => (Pr.nul, s)) (good := fun _ => True) (fun h => by omega) s
    refine ⟨h1, fun e => ?_⟩
    obtain ⟨f, i, k⟩ := h2 e
    rcases k with k | k
    · exact good_leaf k f i
    · omega
  | m + 1, s => by
    obtain ⟨h1, h2⟩ := predG_un hb (m := m + 1) (rd := predF b m) (good := Good m) (fun _ s => pred_un hb m s) s
    refine ⟨h1, fun e => ?_⟩
    obtain ⟨f, i, k⟩ := h2 e
    rcases k with k | k
    · exact good_leaf k f i
    · exact good_node (.inr (by omega)) f i k.2
end Go.Proofs.YtpblgfgcoamgmaaGreatS
namespace Go.Proofs.YtpblgfgcoamgmaaGreatS
open Go Go.Proofs.YtpblgfgcoamgmaaGreatV

variable {G : Heap}
attribute [local irreducible] VN VC VX VQ VY VW VTA VT0

def Sim {α : Type} (x y : α × Sc) : Prop := x.2.2 = y.2.2 ∧ (x.2.2 = 0 → x = y)
theorem Sim.refl {α : Type} (x : α × Sc) : Sim x x := ⟨rfl, fun _ => rfl⟩
theorem Sim.map {α β : Type} {x y : α × Sc} (h : Sim x y) (f : α → β) : Sim (f x.1, x.2) (f y.1, y.2) := ⟨h.1, fun e => by rw [h.2 e]⟩
end Go.Proofs.YtpblgfgcoamgmaaGreatS
namespace Go.Proofs.YtpblgfgcoamgmaaGreatS
open Go Go.Proofs.YtpblgfgcoamgmaaGreatV

variable {G : Heap}
attribute [local irreducible] VN VC VX VQ VY VW VTA VT0

end Go.Proofs.YtpblgfgcoamgmaaGreatS
namespace Go.Proofs.YtpblgfgcoamgmaaGreatS
open Go Go.Proofs.YtpblgfgcoamgmaaGreatV

variable {G : Heap}
attribute [local irreducible] VN VC VX VQ VY VW VTA VT0

end Go.Proofs.YtpblgfgcoamgmaaGreatS
namespace Go.Proofs.YtpblgfgcoamgmaaGreatS
open Go Go.Proofs.YtpblgfgcoamgmaaGreatV

variable {G : Heap}
attribute [local irreducible] VN VC VX VQ VY VW VTA VT0 VPP VP

def gPred (b : List Nat) (s : Sc) : Pr × Sc := if s.2 = 0 then pDecF b s.1 else (Pr.nul, s)
end Go.Proofs.YtpblgfgcoamgmaaGreatS
namespace Go.Proofs.YtpblgfgcoamgmaaGreatS
open Go Go.Proofs.YtpblgfgcoamgmaaGreatV

def Agr {α : Type} (x : α × Int × Int) (y : α × Sc) : Prop := y.2.2 = x.2.2 ∧ (x.2.2 = 0 → y.1 = x.1 ∧ y.2.1 = x.2.1)
theorem sig_agr (b : List Nat) (p : Int) : Agr (rS b p) (nxS b (p, 0)) := by
  unfold rS rdQ nxS
  refine ⟨by simp, fun h => ?_⟩
  dsimp only at h
  simp [h]
theorem pred_agr (b : List Nat) (p : Int) : Agr (rP b p) (gPred b (p, 0)) := by
  unfold rP rdQ gPred
  refine ⟨by simp, fun h => ?_⟩
  dsimp only at h
  simp [h]
theorem num_agr (b : List Nat) (lim : Nat) (p : Int) : Agr (numF b lim p) (gNum b lim (p, 0)) := by
  have hU : nxU b (p, 0) = ((readU b p).1, (((readU b p).2.1 : Int), ((readU b p).2.2 : Int))) := by simp [nxU]
  unfold numF gNum rU rdQ
  rw [hU]
  dsimp only
  generalize readU b p = r
  obtain ⟨n, t, e⟩ := r
  dsimp only
  by_cases he : (e : Int) = 0
  · by_cases hl : lim < n
    · rw [if_pos ⟨he, hl⟩]
      simp [Agr, failS, he, hl]
    · rw [if_neg (fun h => hl h.2)]
      simp [Agr, failS, he, hl]
  · rw [if_neg (fun h => he h.1)]
    have h2 : failS ((t : Int), (e : Int)) 2 (decide (lim < n)) = ((t : Int), (e : Int)) := by simp only [failS]; rw [if_neg (fun h => he h.1)]
    rw [h2]
    simp only [if_neg he]
    exact ⟨rfl, fun h => absurd h he⟩
theorem id_agr (b : List Nat) (prev p : Int) : Agr (idF b prev p) (gId b prev (p, 0)) := by
  obtain ⟨h1, h2⟩ := num_agr b 1073741824 p
  unfold idF gId
  generalize numF b 1073741824 p = x at h1 h2
  generalize gNum b 1073741824 (p, 0) = y at h1 h2
  by_cases he : x.2.2 = 0
  · obtain ⟨h3, h4⟩ := h2 he
    by_cases hl : (x.1 : Int) ≤ prev
    · rw [if_pos ⟨he, hl⟩]
      simp [Agr, failS, h1, he, h3, hl]
    · rw [if_neg (fun h => hl h.2)]
      simp [Agr, failS, h1, he, h3, hl, h4]
  · rw [if_neg (fun h => he h.1)]
    have h5 : failS y.2 5 (decide ((y.1 : Int) ≤ prev)) = y.2 := by simp only [failS]; rw [if_neg (fun h => he (h1 ▸ h.1))]
    rw [h5]
    exact ⟨h1, fun h => absurd h he⟩
theorem nxS_bad {b : List Nat} {s : Sc} (h : ¬ s.2 = 0) : nxS b s = (0, s) := by simp [nxS, h]
theorem txtF_bad {b : List Nat} {s : Sc} (h : ¬ s.2 = 0) : (txtF b s).2 = s := by
  unfold txtF
  have : nxT b s = (ByteArray.empty, s) := by simp [nxT, h]
  rw [this]
  simp only [failS]
  rw [if_neg (fun h' => h h'.1)]
theorem txt_agr (b : List Nat) (p : Int) : (txtF b (p, 0)).2.2 = (if (rT b p).2.2 = 0 ∧ 200 < ((rT b p).1.size : Int) then 2 else (rT b p).2.2) ∧ ((rT b p).2.2 = 0 → ¬ 200 < ((rT b p).1.size : Int) → (txtF b (p, 0)).1 = (rT b p).1 ∧ (txtF b (p, 0)).2.1 = (rT b p).2.1) := by
  have hT : nxT b (p, 0) = (strN ((b.drop (spanF b p).1).take ((spanF b p).2.1 - (spanF b p).1)), (((spanF b p).2.1 : Int), ((spanF b p).2.2 : Int))) := by simp [nxT]
  unfold txtF rT rdQ
  rw [hT]
  dsimp only
  generalize strN ((b.drop (spanF b p).1).take ((spanF b p).2.1 - (spanF b p).1)) = t
  generalize spanF b p = r
  by_cases he : (r.2.2 : Int) = 0
  · by_cases hl : 200 < (t.size : Int)
    · rw [if_pos ⟨he, hl⟩]
      refine ⟨?_, fun _ h => absurd hl h⟩
      simp only [failS]
      rw [if_pos ⟨he, decide_eq_true hl⟩]
    · rw [if_neg (fun h => hl h.2)]
      simp only [failS]
      rw [if_neg (fun h => hl (of_decide_eq_true h.2))]
      exact ⟨rfl, fun h _ => ⟨by trivial, by rw [if_pos h]⟩⟩
  · rw [if_neg (fun h => he h.1)]
    simp only [failS]
    rw [if_neg (fun h => he h.1)]
    exact ⟨rfl, fun h => absurd h he⟩
theorem gCells_bad {b : List Nat} {s : Sc} (h : ¬ s.2 = 0) : ∀ (n : Nat) (l : Rw) (last : Int), (gCells b n l last s).2 = s
  | 0, l, last => rfl
  | n + 1, l, last => by rw [gCells, if_neg h]
theorem cells_agr (b : List Nat) : ∀ (n : Nat) (l : Rw) (prev p : Int), (gCells b n l prev (p, 0)).2.2 = (listF (elC b) n l (prev, p)).2.2 ∧ ((listF (elC b) n l (prev, p)).2.2 = 0 → (gCells b n l prev (p, 0)).1 = (listF (elC b) n l (prev, p)).1 ∧ (gCells b n l prev (p, 0)).2.1 = (listF (elC b) n l (prev, p)).2.1.2)
  | 0, l, prev, p => ⟨rfl, fun _ => ⟨rfl, rfl⟩⟩
  | n + 1, l, prev, p => by
    have ih := cells_agr b n
    rw [gCells, listF, if_pos rfl]
    obtain ⟨a1, a2⟩ := id_agr b prev p
    have hE : elC b (prev, p) = ((cellF b prev p).1, ((cellF b prev p).1.1, (cellF b prev p).2.1), (cellF b prev p).2.2) := rfl
    rw [hE]
    unfold cellF
    generalize idF b prev p = i at a1 a2 ⊢
    generalize gId b prev (p, 0) = gi at a1 a2 ⊢
    by_cases ei : i.2.2 = 0
    rotate_left
    · have eg : ¬ gi.2.2 = 0 := fun h => ei (a1 ▸ h)
      simp only [ne_eq, ei, not_false_eq_true, if_true, if_false]
      rw [nxS_bad eg, gCells_bad (by rw [txtF_bad eg]; exact eg), txtF_bad eg]
      exact ⟨a1, fun h => h.elim⟩
    obtain ⟨a3, a4⟩ := a2 ei
    have g2 : gi.2 = (i.2.1, 0) := Prod.ext a4 (a1.trans ei)
    rw [g2, a3]
    simp only [ne_eq, ei, not_true_eq_false, if_false]
    obtain ⟨b1, b2⟩ := sig_agr b i.2.1
    generalize rS b i.2.1 = x at b1 b2 ⊢
    generalize nxS b (i.2.1, 0) = gx at b1 b2 ⊢
    by_cases ex : x.2.2 = 0
    rotate_left
    · have eg : ¬ gx.2.2 = 0 := fun h => ex (b1 ▸ h)
      simp only [ex, not_false_eq_true, if_true, if_false]
      rw [gCells_bad (by rw [txtF_bad eg]; exact eg), txtF_bad eg]
      exact ⟨b1, fun h => h.elim⟩
    obtain ⟨b3, b4⟩ := b2 ex
    have g3 : gx.2 = (x.2.1, 0) := Prod.ext b4 (b1.trans ex)
    rw [g3, b3]
    simp only [ex, not_true_eq_false, if_false]
    obtain ⟨c1, c2⟩ := txt_agr b x.2.1
    generalize rT b x.2.1 = t at c1 c2 ⊢
    generalize txtF b (x.2.1, 0) = gt at c1 c2 ⊢
    by_cases et : t.2.2 = 0
    rotate_left
    · rw [if_neg (fun h => et h.1)] at c1
      have eg : ¬ gt.2.2 = 0 := fun h => et (c1 ▸ h)
      simp only [et, not_false_eq_true, if_true, if_false]
      rw [gCells_bad eg]
      exact ⟨c1, fun h => h.elim⟩
    by_cases hl : 200 < (t.1.size : Int)
    · rw [if_pos ⟨et, hl⟩] at c1
      have eg : ¬ gt.2.2 = 0 := fun h => by rw [c1] at h; cases h
      simp only [et, hl, not_true_eq_false, if_true, if_false]
      rw [gCells_bad eg]
      exact ⟨by rw [c1]; rfl, fun h => by simp at h⟩
    · rw [if_neg (fun h => hl h.2)] at c1
      obtain ⟨c3, c4⟩ := c2 et hl
      have g4 : gt.2 = (t.2.1, 0) := Prod.ext c4 (c1.trans et)
      rw [g4, c3]
      simp only [et, hl, not_true_eq_false, if_true, if_false]
      exact ih _ _ _
theorem row_agr (b : List Nat) (p : Int) : Agr (rowF b p) (gRow b (p, 0)) := by
  obtain ⟨h1, h2⟩ := num_agr b 64 p
  unfold rowF gRow cellsF
  dsimp only
  generalize numF b 64 p = x at h1 h2 ⊢
  generalize gNum b 64 (p, 0) = y at h1 h2 ⊢
  by_cases he : x.2.2 = 0
  · obtain ⟨h3, h4⟩ := h2 he
    have g2 : y.2 = (x.2.1, 0) := Prod.ext h4 (h1.trans he)
    rw [g2, h3]
    simp only [he, if_true]
    exact cells_agr b x.1 [] 0 x.2.1
  · have eg : ¬ y.2.2 = 0 := fun h => he (h1 ▸ h)
    simp only [he, if_false]
    exact ⟨by rw [gCells_bad eg]; exact h1, fun h => absurd h he⟩
end Go.Proofs.YtpblgfgcoamgmaaGreatS
namespace Go.Proofs.YtpblgfgcoamgmaaGreatS
open Go Go.Proofs.YtpblgfgcoamgmaaGreatV

def gListF {α : Type} (el : Sc → α × Sc) : Nat → List α → Sc → List α × Sc
  | 0, l, s => (l, s)
  | n + 1, l, s => if s.2 = 0 then gListF el n (l ++ [(el s).1]) (el s).2 else (l, s)
theorem gListF_bad {α : Type} {el : Sc → α × Sc} {s : Sc} (h : ¬ s.2 = 0) : ∀ (n : Nat) (l : List α), (gListF el n l s).2 = s
  | 0, l => rfl
  | n + 1, l => by rw [gListF, if_neg h]
theorem list_agr {α : Type} {f : Int → α × Int × Int} {g : Sc → α × Sc} (h : ∀ p, Agr (f p) (g (p, 0))) : ∀ (n : Nat) (l : List α) (p : Int), Agr (listF f n l p) (gListF g n l (p, 0))
  | 0, l, p => ⟨rfl, fun _ => ⟨rfl, rfl⟩⟩
  | n + 1, l, p => by
    obtain ⟨h1, h2⟩ := h p
    rw [listF, gListF, if_pos rfl]
    generalize f p = x at h1 h2 ⊢
    generalize g (p, 0) = y at h1 h2 ⊢
    by_cases he : x.2.2 = 0
    · obtain ⟨h3, h4⟩ := h2 he
      have g2 : y.2 = (x.2.1, 0) := Prod.ext h4 (h1.trans he)
      rw [g2, h3, if_pos he]
      exact list_agr h n _ _
    · have eg : ¬ y.2.2 = 0 := fun h => he (h1 ▸ h)
      rw [if_neg he]
      exact ⟨by rw [gListF_bad eg]; exact h1, fun h => absurd h he⟩
theorem gPred_bad {b : List Nat} {s : Sc} (h : ¬ s.2 = 0) : (gPred b s).2 = s := by simp [gPred, h]
theorem gNum_bad {b : List Nat} {lim : Nat} {s : Sc} (h : ¬ s.2 = 0) : gNum b lim s = (0, s) := by
  have hF : nxU b s = (0, s) := by simp [nxU, h]
  unfold gNum
  rw [hF]
  have h2 : failS s 2 (decide (lim < 0)) = s := by simp [failS]
  dsimp only
  rw [h2, if_neg h]
theorem gId_bad {b : List Nat} {least : Int} {s : Sc} (h : ¬ s.2 = 0) : (gId b least s).2 = s := by
  unfold gId
  rw [gNum_bad h]
  simp only [failS]
  rw [if_neg (fun h' => h h'.1)]
def gGd (b : List Nat) (s : Sc) : Gu × Sc :=
  (((gPred b s).1, ((gId b 0 (gPred b s).2).1 : Int), (nxS b (gId b 0 (gPred b s).2).2).1, (nxS b (nxS b (gId b 0 (gPred b s).2).2).2).1), (nxS b (nxS b (gId b 0 (gPred b s).2).2).2).2)
theorem gd_agr (b : List Nat) (p : Int) : Agr (gdF b p) (gGd b (p, 0)) := by
  obtain ⟨a1, a2⟩ := pred_agr b p
  unfold gdF gGd
  generalize rP b p = r at a1 a2 ⊢
  generalize gPred b (p, 0) = gr at a1 a2 ⊢
  by_cases e1 : r.2.2 = 0
  rotate_left
  · have eg : ¬ gr.2.2 = 0 := fun h => e1 (a1 ▸ h)
    simp only [ne_eq, e1, not_false_eq_true, if_true]
    have g1 := gId_bad (b := b) (least := 0) eg
    exact ⟨by dsimp only; rw [g1, nxS_bad eg]; dsimp only; rw [nxS_bad eg]; exact a1, fun h => absurd h e1⟩
  obtain ⟨a3, a4⟩ := a2 e1
  have g2 : gr.2 = (r.2.1, 0) := Prod.ext a4 (a1.trans e1)
  rw [g2, a3]
  simp only [ne_eq, e1, not_true_eq_false, if_false]
  obtain ⟨b1, b2⟩ := id_agr b 0 r.2.1
  generalize idF b 0 r.2.1 = c at b1 b2 ⊢
  generalize gId b 0 (r.2.1, 0) = gc at b1 b2 ⊢
  by_cases e2 : c.2.2 = 0
  rotate_left
  · have eg : ¬ gc.2.2 = 0 := fun h => e2 (b1 ▸ h)
    simp only [e2, not_false_eq_true, if_true]
    exact ⟨by dsimp only; rw [nxS_bad eg]; dsimp only; rw [nxS_bad eg]; exact b1, fun h => absurd h e2⟩
  obtain ⟨b3, b4⟩ := b2 e2
  have g3 : gc.2 = (c.2.1, 0) := Prod.ext b4 (b1.trans e2)
  rw [g3, b3]
  simp only [e2, not_true_eq_false, if_false]
  obtain ⟨c1, c2⟩ := sig_agr b c.2.1
  generalize rS b c.2.1 = x at c1 c2 ⊢
  generalize nxS b (c.2.1, 0) = gx at c1 c2 ⊢
  by_cases e3 : x.2.2 = 0
  rotate_left
  · have eg : ¬ gx.2.2 = 0 := fun h => e3 (c1 ▸ h)
    simp only [e3, not_false_eq_true, if_true]
    exact ⟨by dsimp only; rw [nxS_bad eg]; exact c1, fun h => absurd h e3⟩
  obtain ⟨c3, c4⟩ := c2 e3
  have g4 : gx.2 = (x.2.1, 0) := Prod.ext c4 (c1.trans e3)
  rw [g4, c3]
  simp only [e3, not_true_eq_false, if_false]
  obtain ⟨d1, d2⟩ := sig_agr b x.2.1
  generalize rS b x.2.1 = y at d1 d2 ⊢
  generalize nxS b (x.2.1, 0) = gy at d1 d2 ⊢
  by_cases e4 : y.2.2 = 0
  · obtain ⟨d3, d4⟩ := d2 e4
    simp only [e4, not_true_eq_false, if_false]
    exact ⟨d1.trans e4, fun _ => ⟨by rw [d3], d4⟩⟩
  · simp only [e4, not_false_eq_true, if_true]
    exact ⟨d1, fun h => absurd h e4⟩
theorem rows_agr (b : List Nat) (p : Int) : Agr (rowsF b p) (gListF (gRow b) (gNum b 4096 (p, 0)).1 [] (gNum b 4096 (p, 0)).2) := by
  obtain ⟨h1, h2⟩ := num_agr b 4096 p
  unfold rowsF
  generalize numF b 4096 p = x at h1 h2 ⊢
  generalize gNum b 4096 (p, 0) = y at h1 h2 ⊢
  by_cases he : x.2.2 = 0
  · obtain ⟨h3, h4⟩ := h2 he
    have g2 : y.2 = (x.2.1, 0) := Prod.ext h4 (h1.trans he)
    rw [g2, h3, if_pos he]
    exact list_agr (row_agr b) x.1 [] x.2.1
  · have eg : ¬ y.2.2 = 0 := fun h => he (h1 ▸ h)
    rw [if_neg he]
    exact ⟨by rw [gListF_bad eg]; exact h1, fun h => absurd h he⟩
theorem gds_agr (b : List Nat) (p : Int) : Agr (gdsF b p) (gListF (gGd b) (gNum b 16 (p, 0)).1 [] (gNum b 16 (p, 0)).2) := by
  obtain ⟨h1, h2⟩ := num_agr b 16 p
  unfold gdsF
  generalize numF b 16 p = x at h1 h2 ⊢
  generalize gNum b 16 (p, 0) = y at h1 h2 ⊢
  by_cases he : x.2.2 = 0
  · obtain ⟨h3, h4⟩ := h2 he
    have g2 : y.2 = (x.2.1, 0) := Prod.ext h4 (h1.trans he)
    rw [g2, h3, if_pos he]
    exact list_agr (gd_agr b) x.1 [] x.2.1
  · have eg : ¬ y.2.2 = 0 := fun h => he (h1 ▸ h)
    rw [if_neg he]
    exact ⟨by rw [gListF_bad eg]; exact h1, fun h => absurd h he⟩
def gDec (b : List Nat) : Pg × Int :=
  let r := gPred b (0, 0)
  let m := gPred b r.2
  let i := gListF (gRow b) (gNum b 4096 m.2).1 [] (gNum b 4096 m.2).2
  let g := gListF (gGd b) (gNum b 16 i.2).1 [] (gNum b 16 i.2).2
  if g.2.2 ≠ 0 then (Pg.nul, g.2.2) else if g.2.1 ≠ b.length then (Pg.nul, 5) else ((r.1, m.1, i.1, g.1), 0)
theorem gDec_eq (b : List Nat) : gDec b = pgDecF b := by
  obtain ⟨a1, a2⟩ := pred_agr b 0
  unfold gDec pgDecF
  generalize rP b 0 = r at a1 a2 ⊢
  generalize gPred b (0, 0) = gr at a1 a2 ⊢
  by_cases e1 : r.2.2 = 0
  rotate_left
  · have eg : ¬ gr.2.2 = 0 := fun h => e1 (a1 ▸ h)
    have q1 := gPred_bad (b := b) eg
    dsimp only
    rw [q1, gNum_bad eg]
    dsimp only
    rw [gListF_bad eg, gNum_bad eg]
    dsimp only
    rw [gListF_bad eg]
    simp only [ne_eq, eg, e1, not_false_eq_true, if_true, a1]
  obtain ⟨a3, a4⟩ := a2 e1
  have g2 : gr.2 = (r.2.1, 0) := Prod.ext a4 (a1.trans e1)
  dsimp only
  rw [g2, a3]
  simp only [ne_eq, e1, not_true_eq_false, if_false]
  obtain ⟨b1, b2⟩ := pred_agr b r.2.1
  generalize rP b r.2.1 = m at b1 b2 ⊢
  generalize gPred b (r.2.1, 0) = gm at b1 b2 ⊢
  by_cases e2 : m.2.2 = 0
  rotate_left
  · have eg : ¬ gm.2.2 = 0 := fun h => e2 (b1 ▸ h)
    rw [gNum_bad eg]
    dsimp only
    rw [gListF_bad eg, gNum_bad eg]
    dsimp only
    rw [gListF_bad eg]
    simp only [eg, e2, not_false_eq_true, if_true, b1]
  obtain ⟨b3, b4⟩ := b2 e2
  have g3 : gm.2 = (m.2.1, 0) := Prod.ext b4 (b1.trans e2)
  rw [g3, b3]
  simp only [e2, not_true_eq_false, if_false]
  obtain ⟨c1, c2⟩ := rows_agr b m.2.1
  generalize rowsF b m.2.1 = i at c1 c2 ⊢
  generalize gListF (gRow b) (gNum b 4096 (m.2.1, 0)).1 [] (gNum b 4096 (m.2.1, 0)).2 = gi at c1 c2 ⊢
  by_cases e3 : i.2.2 = 0
  rotate_left
  · have eg : ¬ gi.2.2 = 0 := fun h => e3 (c1 ▸ h)
    rw [gNum_bad eg]
    dsimp only
    rw [gListF_bad eg]
    simp only [eg, e3, not_false_eq_true, if_true, c1]
  obtain ⟨c3, c4⟩ := c2 e3
  have g4 : gi.2 = (i.2.1, 0) := Prod.ext c4 (c1.trans e3)
  rw [g4, c3]
  simp only [e3, not_true_eq_false, if_false]
  obtain ⟨d1, d2⟩ := gds_agr b i.2.1
  generalize gdsF b i.2.1 = g at d1 d2 ⊢
  generalize gListF (gGd b) (gNum b 16 (i.2.1, 0)).1 [] (gNum b 16 (i.2.1, 0)).2 = gg at d1 d2 ⊢
  by_cases e4 : g.2.2 = 0
  · obtain ⟨d3, d4⟩ := d2 e4
    rw [d1, d3, d4]
  · rw [d1]
    simp only [e4, not_false_eq_true, if_true]
end Go.Proofs.YtpblgfgcoamgmaaGreatS
namespace Go.Proofs.YtpblgfgcoamgmaaGreatS
open Go Go.Proofs.YtpblgfgcoamgmaaGreatV

variable {G : Heap}
attribute [local irreducible] VN VC VX VQ VY VW VTA VT0 VPP VP

theorem guardCl : P.eqGuardType P.depth 83 = false := by decide +kernel
theorem stoodCl : P.stoodInHeld 83 = false := by decide +kernel
theorem eqvCl (i i' : Int) (a a' : Bool) (b b' : Int) (s s' : ByteArray) : eqv P 6 83 (.agg [.int .i64 i, .bool a, .int .i64 b, .str s]) (.agg [.int .i64 i', .bool a', .int .i64 b', .str s']) = (decide (i = i' ∧ a = a' ∧ b = b' ∧ s = s'), True) := by
  simp only [eqv, eqF, Tryz.underlying83, Tryz.underlying3, Tryz.underlying81, stoodCl]
  simp only [go_sem, reduceIte, Nat.reduceEqDiff, Nat.reduceAdd, Nat.reduceSub, Nat.reduceMul, Nat.reduceLT, Nat.reduceLeDiff, Nat.reducePow, Int.reduceToNat, Int.reduceLT, Int.reduceLE, Int.reduceEq, Int.reduceNe, Int.reduceAdd, Int.reduceSub, Int.reduceMul, Int.reduceNeg]
  simp only [eqv, eqF, Tryz.underlying81, Tryz.underlying4, Tryz.underlying2, Tryz.underlying3, Tryz.underlying9, stoodVl]
  simp only [go_sem, reduceIte, Nat.reduceEqDiff, Nat.reduceAdd, Nat.reduceSub, Nat.reduceMul, Nat.reduceLT, Nat.reduceLeDiff, Nat.reducePow, Int.reduceToNat, Int.reduceLT, Int.reduceLE, Int.reduceEq, Int.reduceNe, Int.reduceAdd, Int.reduceSub, Int.reduceMul, Int.reduceNeg]
  simp only [eqv, eqF, Tryz.underlying81, Tryz.underlying4, Tryz.underlying2, Tryz.underlying3, Tryz.underlying9, stoodVl]
  refine Prod.ext ?_ (by simp)
  dsimp only
  rw [Bool.eq_iff_iff]
  simp only [Bool.and_eq_true, beq_iff_eq, decide_eq_true_eq, str_beq, and_assoc, and_true]
attribute [go_sem] eqvCl guardCl
theorem SameRow_refl (r : Rw) : VN P G 14 [.agg [.sl .none (r.map clD)], .agg [.sl .none (r.map clD)]] (.bool true) := by
  unfold VN
  refine VC.small2 fun hsm => ?_
  have z1 := hsm (.agg [.sl .none (r.map clD)]) (List.mem_cons_self ..) (.sl .none (r.map clD)) (by simp [D.cells])
  simp only [Small, mostLen, List.length_map] at z1
  clear hsm
  refine VC.ofs (fun | 6 => [(0, []), (1, []), (2, []), (3, []), (4, []), (5, []), (6, []), (7, []), (8, []), (9, []), (10, [])] | 99999999 => [(0, [0, 1, 2, 3, 4, 5, 12, 17, 30])] | _ => []) [4] mixed Tryz.func14 rfl rfl rfl rfl (by decide +kernel) (by simp) ?_
  have el : (r.map clD).length = r.length := by simp
  simp only [go_sem, reduceIte, Nat.reduceEqDiff, Nat.reduceAdd, Nat.reduceSub, Nat.reduceMul, Nat.reduceLT, Nat.reduceLeDiff, Nat.reducePow, Int.reduceToNat, Int.reduceLT, Int.reduceLE, Int.reduceEq, Int.reduceNe, Int.reduceAdd, Int.reduceSub, Int.reduceMul, Int.reduceNeg]
  refine fun b1 => new_1 fun b2 q1 q2 => ?_
  try simp only [go_sem, reduceIte, Nat.reduceEqDiff, Nat.reduceAdd, Nat.reduceSub, Nat.reduceMul, Nat.reduceLT, Nat.reduceLeDiff, Nat.reducePow, Int.reduceToNat, Int.reduceLT, Int.reduceLE, Int.reduceEq, Int.reduceNe, Int.reduceAdd, Int.reduceSub, Int.reduceMul, Int.reduceNeg, q1, q2, ne_eq, not_true_eq_false, decide_false, el]
  refine vwq_loop (fun v => ∃ (j : Nat), j ≤ r.length ∧ v.σ 2 = .pb b1 0 ∧ v.σ 3 = .pb b2 0 ∧ v.σ 5 = .int .i64 j ∧ v.β b1 = some [.sl .none (r.map clD)] ∧ v.β b2 = some [.sl .none (r.map clD)] ∧ v.ω = []) (fun v => r.length - (ival (v.σ 5)).toNat) ⟨0, by omega, rfl, rfl, rfl, by simp [Heap.set, q1, q2], by simp [Heap.set], rfl⟩ ?_
  rintro σ β ω ⟨j, hj, q2, q3, q5, e1, e2, rfl⟩
  dsimp only at q2 q3 q5 e1 e2
  try simp only [go_sem, reduceIte, Nat.reduceEqDiff, Nat.reduceAdd, Nat.reduceSub, Nat.reduceMul, Nat.reduceLT, Nat.reduceLeDiff, Nat.reducePow, Int.reduceToNat, Int.reduceLT, Int.reduceLE, Int.reduceEq, Int.reduceNe, Int.reduceAdd, Int.reduceSub, Int.reduceMul, Int.reduceNeg, q2, q3, q5, el, e1, e2]
  refine cd_dec (fun g => ?_) (fun g => ?_)
  · have g' := eq_true g
    obtain ⟨x, hx, ex⟩ := Cl_at (l := r) (j := j) (by omega)
    have c1 : ((0 : Int) ≤ j) = True := eq_true (by omega)
    have wj := wrap_i64 (x := (j : Int) + 1) (by omega) (by omega)
    try simp only [go_sem, reduceIte, Nat.reduceEqDiff, Nat.reduceAdd, Nat.reduceSub, Nat.reduceMul, Nat.reduceLT, Nat.reduceLeDiff, Nat.reducePow, Int.reduceToNat, Int.reduceLT, Int.reduceLE, Int.reduceEq, Int.reduceNe, Int.reduceAdd, Int.reduceSub, Int.reduceMul, Int.reduceNeg, q2, q3, q5, el, e1, e2, ex, c1, g', wj, ne_eq]
    exact ⟨⟨j + 1, by omega, rfl⟩, by omega⟩
  · try simp only [go_sem, reduceIte, Nat.reduceEqDiff, Nat.reduceAdd, Nat.reduceSub, Nat.reduceMul, Nat.reduceLT, Nat.reduceLeDiff, Nat.reducePow, Int.reduceToNat, Int.reduceLT, Int.reduceLE, Int.reduceEq, Int.reduceNe, Int.reduceAdd, Int.reduceSub, Int.reduceMul, Int.reduceNeg, q2, q3, q5]
    exact finK_drop ⟨rfl, rfl, rfl⟩
theorem SameRows_refl (tk tk' : Tk) (l : List Rw) : VN P G 52 [.sl tk (l.map rwD), .sl tk' (l.map rwD)] (.bool true) := by
  unfold VN
  refine VC.small2 fun hsm => ?_
  have z1 := hsm (.sl tk (l.map rwD)) (List.mem_cons_self ..) (.sl tk (l.map rwD)) (by simp [D.cells])
  simp only [Small, mostLen, List.length_map] at z1
  clear hsm
  refine VC.ofs (fun | 6 => [(0, []), (1, []), (2, []), (3, []), (4, []), (5, []), (6, []), (7, []), (8, []), (9, [])] | 99999999 => [(0, [0, 1, 4, 5, 6, 11, 15, 28])] | _ => []) [4] mixed Tryz.func52 rfl rfl rfl rfl (by decide +kernel) (by simp) ?_
  have el : (l.map rwD).length = l.length := by simp
  simp only [go_sem, reduceIte, Nat.reduceEqDiff, Nat.reduceAdd, Nat.reduceSub, Nat.reduceMul, Nat.reduceLT, Nat.reduceLeDiff, Nat.reducePow, Int.reduceToNat, Int.reduceLT, Int.reduceLE, Int.reduceEq, Int.reduceNe, Int.reduceAdd, Int.reduceSub, Int.reduceMul, Int.reduceNeg, ne_eq, not_true_eq_false, el]
  refine vwq_loop (fun v => ∃ (j : Nat), j ≤ l.length ∧ v.σ 0 = .sl tk (l.map rwD) ∧ v.σ 1 = .sl tk' (l.map rwD) ∧ v.σ 5 = .int .i64 j ∧ v.ω = []) (fun v => l.length - (ival (v.σ 5)).toNat) ⟨0, by omega, rfl, rfl, rfl, rfl⟩ ?_
  rintro σ β ω ⟨j, hj, q0, q1, q5, rfl⟩
  dsimp only at q0 q1 q5
  try simp only [go_sem, reduceIte, Nat.reduceEqDiff, Nat.reduceAdd, Nat.reduceSub, Nat.reduceMul, Nat.reduceLT, Nat.reduceLeDiff, Nat.reducePow, Int.reduceToNat, Int.reduceLT, Int.reduceLE, Int.reduceEq, Int.reduceNe, Int.reduceAdd, Int.reduceSub, Int.reduceMul, Int.reduceNeg, q0, q1, q5, el]
  refine cd_dec (fun g => ?_) (fun g => ?_)
  · have g' := eq_true g
    obtain ⟨x, hx, ex⟩ := Rw_at (l := l) (j := j) (by omega)
    have hm := SameRow_refl (G := G) x
    have c1 : ((0 : Int) ≤ j) = True := eq_true (by omega)
    have wj := wrap_i64 (x := (j : Int) + 1) (by omega) (by omega)
    try simp only [go_sem, reduceIte, Nat.reduceEqDiff, Nat.reduceAdd, Nat.reduceSub, Nat.reduceMul, Nat.reduceLT, Nat.reduceLeDiff, Nat.reducePow, Int.reduceToNat, Int.reduceLT, Int.reduceLE, Int.reduceEq, Int.reduceNe, Int.reduceAdd, Int.reduceSub, Int.reduceMul, Int.reduceNeg, q0, q1, q5, el, ex, c1, g', wj]
    (first | refine cK_vn (hm) ?_ | refine cE_vn (hm) ?_)
    try simp only [go_sem, reduceIte, Nat.reduceEqDiff, Nat.reduceAdd, Nat.reduceSub, Nat.reduceMul, Nat.reduceLT, Nat.reduceLeDiff, Nat.reducePow, Int.reduceToNat, Int.reduceLT, Int.reduceLE, Int.reduceEq, Int.reduceNe, Int.reduceAdd, Int.reduceSub, Int.reduceMul, Int.reduceNeg, q0, q1, q5, el, ex, c1, g', wj]
    exact ⟨⟨j + 1, by omega, rfl⟩, by omega⟩
  · try simp only [go_sem, reduceIte, Nat.reduceEqDiff, Nat.reduceAdd, Nat.reduceSub, Nat.reduceMul, Nat.reduceLT, Nat.reduceLeDiff, Nat.reducePow, Int.reduceToNat, Int.reduceLT, Int.reduceLE, Int.reduceEq, Int.reduceNe, Int.reduceAdd, Int.reduceSub, Int.reduceMul, Int.reduceNeg, q0, q1, q5]
    exact finK_drop ⟨rfl, rfl, rfl⟩
set_option maxRecDepth 100000 in
theorem Same9_refl : ∀ (n : Nat) (p : Pr), SizeOf.sizeOf p ≤ n → VN P G 51 [.agg p.cells, .agg p.cells] (.bool true)
  | 0, p, h => by cases p; simp at h
  | n + 1, p, hn => by
    have ih := fun k hk => Same9_refl n k (Nat.le_of_lt_succ (Nat.lt_of_lt_of_le (Pr.kid_lt (p := p) hk) hn))
    unfold VN
    refine VC.small2 fun hsm => ?_
    have z1 := hsm (.agg p.cells) (List.mem_cons_self ..) (.sl .none (p.kids.map Pr.d)) (by simp [D.cells, Pr.cells])
    have z2 := hsm (.agg p.cells) (List.mem_cons_self ..) (.sl .none (p.set.map Vl.d)) (by simp [D.cells, Pr.cells])
    simp only [Small, mostLen, List.length_map] at z1 z2
    clear hsm
    refine VC.ofs (fun | 6 => [(0, []), (1, []), (2, []), (3, []), (4, []), (5, []), (6, []), (7, []), (8, []), (9, []), (10, [])] | 11 => [(0, []), (1, []), (2, []), (3, []), (4, []), (5, []), (6, []), (7, []), (8, []), (9, []), (10, []), (11, [])] | 99999999 => [(0, [0, 1, 2, 3, 4, 5, 6, 7, 58, 63, 76, 81, 96])] | _ => []) [4] mixed Tryz.func51 rfl rfl rfl rfl (by decide +kernel) (by simp) ?_
    have el : (p.kids.map Pr.d).length = p.kids.length := by simp
    have em : (p.set.map Vl.d).length = p.set.length := by simp
    simp only [go_sem, reduceIte, Nat.reduceEqDiff, Nat.reduceAdd, Nat.reduceSub, Nat.reduceMul, Nat.reduceLT, Nat.reduceLeDiff, Nat.reducePow, Int.reduceToNat, Int.reduceLT, Int.reduceLE, Int.reduceEq, Int.reduceNe, Int.reduceAdd, Int.reduceSub, Int.reduceMul, Int.reduceNeg]
    refine fun b1 => new_1 fun b2 q1 q2 => ?_
    have N := And.intro q1 q2
    try simp only [go_sem, reduceIte, Nat.reduceEqDiff, Nat.reduceAdd, Nat.reduceSub, Nat.reduceMul, Nat.reduceLT, Nat.reduceLeDiff, Nat.reducePow, Int.reduceToNat, Int.reduceLT, Int.reduceLE, Int.reduceEq, Int.reduceNe, Int.reduceAdd, Int.reduceSub, Int.reduceMul, Int.reduceNeg, q1, q2, ne_eq, not_true_eq_false, decide_false, el, em]
    refine vwq_loop (fun v => ∃ (j : Nat), j ≤ p.set.length ∧ v.σ 2 = .pb b1 0 ∧ v.σ 3 = .pb b2 0 ∧ v.σ 5 = .int .i64 j ∧ v.β b1 = some p.cells ∧ v.β b2 = some p.cells ∧ v.ω = []) (fun v => p.set.length - (ival (v.σ 5)).toNat) ⟨0, by omega, rfl, rfl, rfl, by simp [Heap.set, q1, q2], by simp [Heap.set], rfl⟩ ?_
    rintro σ β ω ⟨j, hj, q2, q3, q5, e1, e2, rfl⟩
    dsimp only at q2 q3 q5 e1 e2
    try simp only [go_sem, reduceIte, Nat.reduceEqDiff, Nat.reduceAdd, Nat.reduceSub, Nat.reduceMul, Nat.reduceLT, Nat.reduceLeDiff, Nat.reducePow, Int.reduceToNat, Int.reduceLT, Int.reduceLE, Int.reduceEq, Int.reduceNe, Int.reduceAdd, Int.reduceSub, Int.reduceMul, Int.reduceNeg, q2, q3, q5, el, em, e1, e2]
    refine cd_dec (fun g => ?_) (fun g => ?_)
    · have g' := eq_true g
      obtain ⟨x, hx, ex⟩ := Vl_at (l := p.set) (j := j) (by omega)
      have c1 : ((0 : Int) ≤ j) = True := eq_true (by omega)
      have wj := wrap_i64 (x := (j : Int) + 1) (by omega) (by omega)
      try simp only [go_sem, reduceIte, Nat.reduceEqDiff, Nat.reduceAdd, Nat.reduceSub, Nat.reduceMul, Nat.reduceLT, Nat.reduceLeDiff, Nat.reducePow, Int.reduceToNat, Int.reduceLT, Int.reduceLE, Int.reduceEq, Int.reduceNe, Int.reduceAdd, Int.reduceSub, Int.reduceMul, Int.reduceNeg, q2, q3, q5, el, em, e1, e2, ex, c1, g', wj, ne_eq]
      exact ⟨⟨j + 1, by omega, rfl⟩, by omega⟩
    clear g hj
    try simp only [go_sem, reduceIte, Nat.reduceEqDiff, Nat.reduceAdd, Nat.reduceSub, Nat.reduceMul, Nat.reduceLT, Nat.reduceLeDiff, Nat.reducePow, Int.reduceToNat, Int.reduceLT, Int.reduceLE, Int.reduceEq, Int.reduceNe, Int.reduceAdd, Int.reduceSub, Int.reduceMul, Int.reduceNeg, q2, q3, q5]
    refine vwq_loop (fun v => ∃ (j : Nat), j ≤ p.kids.length ∧ v.σ 2 = .pb b1 0 ∧ v.σ 3 = .pb b2 0 ∧ v.σ 6 = .int .i64 j ∧ v.β b1 = some p.cells ∧ v.β b2 = some p.cells ∧ v.ω = []) (fun v => p.kids.length - (ival (v.σ 6)).toNat) ⟨0, by omega, rfl, rfl, rfl, e1, e2, rfl⟩ ?_
    clear q2 q3 q5 e1 e2
    rintro σ β ω ⟨j, hj, q2, q3, q6, e1, e2, rfl⟩
    dsimp only at q2 q3 q6 e1 e2
    try simp only [go_sem, reduceIte, Nat.reduceEqDiff, Nat.reduceAdd, Nat.reduceSub, Nat.reduceMul, Nat.reduceLT, Nat.reduceLeDiff, Nat.reducePow, Int.reduceToNat, Int.reduceLT, Int.reduceLE, Int.reduceEq, Int.reduceNe, Int.reduceAdd, Int.reduceSub, Int.reduceMul, Int.reduceNeg, q2, q3, q6, el, e1, e2]
    refine cd_dec (fun g => ?_) (fun g => ?_)
    · have g' := eq_true g
      obtain ⟨x, hx, ex⟩ := Pr_pat (ps := p.kids) (j := j) (by omega)
      have hm := ih x (List.mem_of_getElem? hx)
      have c1 : ((0 : Int) ≤ j) = True := eq_true (by omega)
      have wj := wrap_i64 (x := (j : Int) + 1) (by omega) (by omega)
      try simp only [go_sem, reduceIte, Nat.reduceEqDiff, Nat.reduceAdd, Nat.reduceSub, Nat.reduceMul, Nat.reduceLT, Nat.reduceLeDiff, Nat.reducePow, Int.reduceToNat, Int.reduceLT, Int.reduceLE, Int.reduceEq, Int.reduceNe, Int.reduceAdd, Int.reduceSub, Int.reduceMul, Int.reduceNeg, q2, q3, q6, el, e1, e2, ex, c1, g', wj]
      (first | refine cK_vn (hm) ?_ | refine cE_vn (hm) ?_)
      try simp only [go_sem, reduceIte, Nat.reduceEqDiff, Nat.reduceAdd, Nat.reduceSub, Nat.reduceMul, Nat.reduceLT, Nat.reduceLeDiff, Nat.reducePow, Int.reduceToNat, Int.reduceLT, Int.reduceLE, Int.reduceEq, Int.reduceNe, Int.reduceAdd, Int.reduceSub, Int.reduceMul, Int.reduceNeg, q2, q3, q6, el, e1, e2, ex, c1, g', wj]
      exact ⟨⟨j + 1, by omega, rfl⟩, by omega⟩
    · try simp only [go_sem, reduceIte, Nat.reduceEqDiff, Nat.reduceAdd, Nat.reduceSub, Nat.reduceMul, Nat.reduceLT, Nat.reduceLeDiff, Nat.reducePow, Int.reduceToNat, Int.reduceLT, Int.reduceLE, Int.reduceEq, Int.reduceNe, Int.reduceAdd, Int.reduceSub, Int.reduceMul, Int.reduceNeg, q2, q3, q6]
      exact finK_drop ⟨rfl, rfl, rfl⟩
theorem Same9_ok (p : Pr) : VN P G 51 [.agg p.cells, .agg p.cells] (.bool true) := Same9_refl _ p (Nat.le_refl _)
theorem Gu_at {l : List Gu} {j : Nat} (h : j < l.length) : ∃ g, l[j]? = some g ∧ (l.map guD).getD j .any = .agg [.int .i64 g.1.op, .int .i64 g.1.id, .int .i64 g.1.lo, .int .i64 g.1.hi, .sl .none (g.1.set.map Vl.d), .str g.1.text, .sl .none (g.1.kids.map Pr.d), .int .i64 g.2.1, .int .i64 g.2.2.1, .int .i64 g.2.2.2] := at_map h
def Pg.c16 (g : Pg) : List D := [.int .i64 g.1.op, .int .i64 g.1.id, .int .i64 g.1.lo, .int .i64 g.1.hi, .sl .none (g.1.set.map Vl.d), .str g.1.text, .sl .none (g.1.kids.map Pr.d), .int .i64 g.2.1.op, .int .i64 g.2.1.id, .int .i64 g.2.1.lo, .int .i64 g.2.1.hi, .sl .none (g.2.1.set.map Vl.d), .str g.2.1.text, .sl .none (g.2.1.kids.map Pr.d), .sl .none (g.2.2.1.map rwD), .sl .none (g.2.2.2.map guD)]
theorem Pg.cells16 (g : Pg) : g.cells = g.c16 := rfl
theorem Same27_ok (g : Pg) : VN P G 19 [.agg g.cells, .agg g.cells] (.bool true) := by
  have h1 := Same9_ok (G := G) g.1
  have h2 := Same9_ok (G := G) g.2.1
  have h3 := SameRows_refl (G := G) .none .none g.2.2.1
  rw [g.cells16]
  simp only [Pr.cells] at h1 h2
  unfold Pg.c16
  unfold VN
  refine VC.small2 fun hsm => ?_
  have z1 := hsm (.agg g.c16) (List.mem_cons_self ..) (.sl .none (g.2.2.2.map guD)) (by simp [D.cells, Pg.c16])
  simp only [Small, mostLen, List.length_map] at z1
  clear hsm
  refine VC.ofs (fun | 99999999 => [(0, [0, 1, 2, 3, 4, 5, 6, 7, 38, 43, 82])] | _ => []) [4] mixed Tryz.func19 rfl rfl rfl rfl (by decide +kernel) (by simp) ?_
  have el : (g.2.2.2.map guD).length = g.2.2.2.length := by simp
  simp only [go_sem, reduceIte, Nat.reduceEqDiff, Nat.reduceAdd, Nat.reduceSub, Nat.reduceMul, Nat.reduceLT, Nat.reduceLeDiff, Nat.reducePow, Int.reduceToNat, Int.reduceLT, Int.reduceLE, Int.reduceEq, Int.reduceNe, Int.reduceAdd, Int.reduceSub, Int.reduceMul, Int.reduceNeg]
  refine fun b1 => new_1 fun b2 q1 q2 => ?_
  have N := And.intro q1 q2
  try simp only [go_sem, reduceIte, Nat.reduceEqDiff, Nat.reduceAdd, Nat.reduceSub, Nat.reduceMul, Nat.reduceLT, Nat.reduceLeDiff, Nat.reducePow, Int.reduceToNat, Int.reduceLT, Int.reduceLE, Int.reduceEq, Int.reduceNe, Int.reduceAdd, Int.reduceSub, Int.reduceMul, Int.reduceNeg, q1, q2, ne_eq, not_true_eq_false, decide_false, el]
  repeat' (first | simp only [go_sem, reduceIte, Nat.reduceEqDiff, Nat.reduceAdd, Nat.reduceSub, Nat.reduceMul, Nat.reduceLT, Nat.reduceLeDiff, Nat.reducePow, Int.reduceToNat, Int.reduceLT, Int.reduceLE, Int.reduceEq, Int.reduceNe, Int.reduceAdd, Int.reduceSub, Int.reduceMul, Int.reduceNeg, q1, q2, ne_eq, not_true_eq_false, decide_false, el] | refine cK_vn h1 ?_ | refine cK_vn h2 ?_ | refine cK_vn h3 ?_ | refine cE_vn h1 ?_ | refine cE_vn h2 ?_ | refine cE_vn h3 ?_ | fail)
  refine vwq_loop (fun v => ∃ (j : Nat), j ≤ g.2.2.2.length ∧ v.σ 2 = .pb b1 0 ∧ v.σ 3 = .pb b2 0 ∧ v.σ 5 = .int .i64 j ∧ v.β b1 = some g.c16 ∧ v.β b2 = some g.c16 ∧ v.ω = []) (fun v => g.2.2.2.length - (ival (v.σ 5)).toNat) ⟨0, by omega, rfl, rfl, rfl, by simp [Heap.set, q1, q2, Pg.c16], by simp [Heap.set, Pg.c16], rfl⟩ ?_
  clear q1 q2
  rintro σ β ω ⟨j, hj, q2, q3, q5, e1, e2, rfl⟩
  dsimp only [Pg.c16] at q2 q3 q5 e1 e2
  try simp only [go_sem, reduceIte, Nat.reduceEqDiff, Nat.reduceAdd, Nat.reduceSub, Nat.reduceMul, Nat.reduceLT, Nat.reduceLeDiff, Nat.reducePow, Int.reduceToNat, Int.reduceLT, Int.reduceLE, Int.reduceEq, Int.reduceNe, Int.reduceAdd, Int.reduceSub, Int.reduceMul, Int.reduceNeg, q2, q3, q5, el, e1, e2]
  refine cd_dec (fun k => ?_) (fun k => ?_)
  · have k' := eq_true k
    obtain ⟨x, hx, ex⟩ := Gu_at (l := g.2.2.2) (j := j) (by omega)
    have hm := Same9_ok (G := G) x.1
    simp only [Pr.cells] at hm
    have c1 : ((0 : Int) ≤ j) = True := eq_true (by omega)
    have wj := wrap_i64 (x := (j : Int) + 1) (by omega) (by omega)
    have N := trivial
    try simp only [go_sem, reduceIte, Nat.reduceEqDiff, Nat.reduceAdd, Nat.reduceSub, Nat.reduceMul, Nat.reduceLT, Nat.reduceLeDiff, Nat.reducePow, Int.reduceToNat, Int.reduceLT, Int.reduceLE, Int.reduceEq, Int.reduceNe, Int.reduceAdd, Int.reduceSub, Int.reduceMul, Int.reduceNeg, q2, q3, q5, el, e1, e2, ex, c1, k', wj]
    refine new_any fun b6 hb6 => ?_
    have N := And.intro N (box_ne hb6 e1)
    have N := And.intro N (box_ne hb6 e2)
    generalize hβ_ : Heap.set _ b6 _ = β_
    have e6 := hit_set hβ_
    have e1 := keep_new hβ_ hb6 e1
    have e2 := keep_new hβ_ hb6 e2
    clear hβ_ hb6
    try simp only [go_sem, reduceIte, Nat.reduceEqDiff, Nat.reduceAdd, Nat.reduceSub, Nat.reduceMul, Nat.reduceLT, Nat.reduceLeDiff, Nat.reducePow, Int.reduceToNat, Int.reduceLT, Int.reduceLE, Int.reduceEq, Int.reduceNe, Int.reduceAdd, Int.reduceSub, Int.reduceMul, Int.reduceNeg, N, q2, q3, q5, el, e1, e2, e6, ex, c1, k', wj]
    refine new_any fun b7 hb7 => ?_
    have N := And.intro N (box_ne hb7 e1)
    have N := And.intro N (box_ne hb7 e2)
    have N := And.intro N (box_ne hb7 e6)
    generalize hβ_ : Heap.set _ b7 _ = β_
    have e7 := hit_set hβ_
    have e1 := keep_new hβ_ hb7 e1
    have e2 := keep_new hβ_ hb7 e2
    have e6 := keep_new hβ_ hb7 e6
    clear hβ_ hb7
    repeat' (first | simp only [go_sem, reduceIte, Nat.reduceEqDiff, Nat.reduceAdd, Nat.reduceSub, Nat.reduceMul, Nat.reduceLT, Nat.reduceLeDiff, Nat.reducePow, Int.reduceToNat, Int.reduceLT, Int.reduceLE, Int.reduceEq, Int.reduceNe, Int.reduceAdd, Int.reduceSub, Int.reduceMul, Int.reduceNeg, N, q2, q3, q5, el, e1, e2, e6, e7, ex, c1, k', wj, ne_eq, not_true_eq_false, decide_false] | refine cK_vn hm ?_ | refine cE_vn hm ?_ | fail)
    exact ⟨⟨j + 1, by omega, rfl, rfl⟩, by omega⟩
  · try simp only [go_sem, reduceIte, Nat.reduceEqDiff, Nat.reduceAdd, Nat.reduceSub, Nat.reduceMul, Nat.reduceLT, Nat.reduceLeDiff, Nat.reducePow, Int.reduceToNat, Int.reduceLT, Int.reduceLE, Int.reduceEq, Int.reduceNe, Int.reduceAdd, Int.reduceSub, Int.reduceMul, Int.reduceNeg, q2, q3, q5]
    exact finK_drop ⟨rfl, rfl, rfl⟩
abbrev Ln := Int × Rw
def lnD (l : Ln) : D := .agg [.int .i64 l.1, .sl .none (l.2.map clD)]
structure Tbl where
  next : Int
  l : List Ln
  deriving DecidableEq
def Tbl.cells (t : Tbl) : List D := [.int .i64 t.next, .sl .none (t.l.map lnD)]
theorem Ln_at {l : List Ln} {j : Nat} (h : j < l.length) : ∃ r, l[j]? = some r ∧ (l.map lnD).getD j .any = .agg [.int .i64 r.1, .sl .none (r.2.map clD)] := at_map h
theorem SameTable_refl (t : Tbl) : VN P G 21 [.agg t.cells, .agg t.cells] (.bool true) := by
  unfold VN
  refine VC.small2 fun hsm => ?_
  have z1 := hsm (.agg t.cells) (List.mem_cons_self ..) (.sl .none (t.l.map lnD)) (by simp [D.cells, Tbl.cells])
  simp only [Small, mostLen, List.length_map] at z1
  clear hsm
  refine VC.ofs (fun | 6 => [(0, []), (1, []), (2, []), (3, []), (4, []), (5, []), (6, []), (7, []), (8, []), (9, []), (10, []), (11, []), (12, []), (13, [])] | 7 => [(0, []), (1, []), (2, []), (3, []), (4, []), (5, []), (6, []), (7, []), (8, []), (9, []), (10, []), (11, []), (12, []), (13, []), (14, []), (15, []), (16, [])] | 99999999 => [(0, [0, 1, 2, 3, 4, 5, 6, 20, 25, 57])] | _ => []) [4] mixed Tryz.func21 rfl rfl rfl rfl (by decide +kernel) (by simp) ?_
  have el : (t.l.map lnD).length = t.l.length := by simp
  simp only [Tbl.cells]
  simp only [go_sem, reduceIte, Nat.reduceEqDiff, Nat.reduceAdd, Nat.reduceSub, Nat.reduceMul, Nat.reduceLT, Nat.reduceLeDiff, Nat.reducePow, Int.reduceToNat, Int.reduceLT, Int.reduceLE, Int.reduceEq, Int.reduceNe, Int.reduceAdd, Int.reduceSub, Int.reduceMul, Int.reduceNeg]
  refine fun b1 => new_1 fun b2 q1 q2 => ?_
  try simp only [go_sem, reduceIte, Nat.reduceEqDiff, Nat.reduceAdd, Nat.reduceSub, Nat.reduceMul, Nat.reduceLT, Nat.reduceLeDiff, Nat.reducePow, Int.reduceToNat, Int.reduceLT, Int.reduceLE, Int.reduceEq, Int.reduceNe, Int.reduceAdd, Int.reduceSub, Int.reduceMul, Int.reduceNeg, q1, q2, ne_eq, not_true_eq_false, decide_false, el]
  refine vwq_loop (fun v => ∃ (j : Nat), j ≤ t.l.length ∧ v.σ 2 = .pb b1 0 ∧ v.σ 3 = .pb b2 0 ∧ v.σ 5 = .int .i64 j ∧ v.β b1 = some t.cells ∧ v.β b2 = some t.cells ∧ v.ω = []) (fun v => t.l.length - (ival (v.σ 5)).toNat) ⟨0, by omega, rfl, rfl, rfl, by simp [Heap.set, q1, q2, Tbl.cells], by simp [Heap.set, Tbl.cells], rfl⟩ ?_
  rintro σ β ω ⟨j, hj, q2, q3, q5, e1, e2, rfl⟩
  dsimp only [Tbl.cells] at q2 q3 q5 e1 e2
  try simp only [go_sem, reduceIte, Nat.reduceEqDiff, Nat.reduceAdd, Nat.reduceSub, Nat.reduceMul, Nat.reduceLT, Nat.reduceLeDiff, Nat.reducePow, Int.reduceToNat, Int.reduceLT, Int.reduceLE, Int.reduceEq, Int.reduceNe, Int.reduceAdd, Int.reduceSub, Int.reduceMul, Int.reduceNeg, q2, q3, q5, el, e1, e2]
  refine cd_dec (fun g => ?_) (fun g => ?_)
  · have g' := eq_true g
    obtain ⟨x, hx, ex⟩ := Ln_at (l := t.l) (j := j) (by omega)
    have hm := SameRow_refl (G := G) x.2
    have c1 : ((0 : Int) ≤ j) = True := eq_true (by omega)
    have wj := wrap_i64 (x := (j : Int) + 1) (by omega) (by omega)
    repeat' (first | simp only [go_sem, reduceIte, Nat.reduceEqDiff, Nat.reduceAdd, Nat.reduceSub, Nat.reduceMul, Nat.reduceLT, Nat.reduceLeDiff, Nat.reducePow, Int.reduceToNat, Int.reduceLT, Int.reduceLE, Int.reduceEq, Int.reduceNe, Int.reduceAdd, Int.reduceSub, Int.reduceMul, Int.reduceNeg, q2, q3, q5, el, e1, e2, ex, c1, g', wj, ne_eq, not_true_eq_false, decide_false] | refine cK_vn hm ?_ | refine cE_vn hm ?_ | fail)
    exact ⟨⟨j + 1, by omega, rfl, rfl⟩, by omega⟩
  · try simp only [go_sem, reduceIte, Nat.reduceEqDiff, Nat.reduceAdd, Nat.reduceSub, Nat.reduceMul, Nat.reduceLT, Nat.reduceLeDiff, Nat.reducePow, Int.reduceToNat, Int.reduceLT, Int.reduceLE, Int.reduceEq, Int.reduceNe, Int.reduceAdd, Int.reduceSub, Int.reduceMul, Int.reduceNeg, q2, q3, q5]
    exact finK_drop ⟨rfl, rfl, rfl⟩
end Go.Proofs.YtpblgfgcoamgmaaGreatS
namespace Go.Proofs.YtpblgfgcoamgmaaGreatS
open Go Go.Proofs.YtpblgfgcoamgmaaGreatV

variable {G : Heap}
attribute [local irreducible] VN VC VX VQ VY VW VTA VT0 VPP VP

theorem IndexCl_ok (l : List Cl) (q : Cl → Bool) {f : FuncId} {fs cs : List D} (b : Nat) (X : List D) (hq : ∀ x ∈ l, VQ P G f (fs ++ [clD x] ++ cs) b X (.bool (q x))) :
    VQ P G 75 [.sl .none (l.map clD), .clo (.func f) fs cs] b X (.int .i64 (idx q l)) := by
  unfold VQ
  refine VC.small2 fun hsm => ?_
  have z1 := hsm (.sl .none (l.map clD)) (List.mem_cons_self ..) (.sl .none (l.map clD)) (by simp [D.cells])
  simp only [Small, mostLen, List.length_map] at z1
  clear hsm
  refine VC.ofs (fun | 99999999 => [(0, [0, 1, 4, 5, 7, 8, 9, 16])] | _ => []) [4] mixed Tryz.func75 rfl rfl rfl rfl (by decide +kernel) (by simp) ?_
  simp only [go_sem, reduceIte, Nat.reduceEqDiff, Nat.reduceAdd, Nat.reduceSub, Nat.reduceMul, Nat.reduceLT, Nat.reduceLeDiff, Nat.reducePow, Int.reduceToNat, Int.reduceLT, Int.reduceLE, Int.reduceEq, Int.reduceNe, Int.reduceAdd, Int.reduceSub, Int.reduceMul, Int.reduceNeg]
  refine vwq_loop (fun u => ∃ (j : Nat), j ≤ l.length ∧ j ≤ l.findIdx q ∧ u.σ 0 = .sl .none (l.map clD) ∧ u.σ 1 = .clo (.func f) fs cs ∧ u.σ 7 = .int .i64 l.length ∧ u.σ 8 = .int .i64 j ∧ u.β = Heap.nil.set b X ∧ u.ω = []) (fun u => l.length - (ival (u.σ 8)).toNat) ⟨0, by omega, by omega, rfl, rfl, by rw [← List.length_map (f := clD)]; rfl, rfl, rfl, rfl⟩ ?_
  rintro σ β ω ⟨j, j1, j2, q0, q1, q7, q8, rfl, rfl⟩
  dsimp only at q0 q1 q7 q8
  try simp only [go_sem, reduceIte, Nat.reduceEqDiff, Nat.reduceAdd, Nat.reduceSub, Nat.reduceMul, Nat.reduceLT, Nat.reduceLeDiff, Nat.reducePow, Int.reduceToNat, Int.reduceLT, Int.reduceLE, Int.reduceEq, Int.reduceNe, Int.reduceAdd, Int.reduceSub, Int.reduceMul, Int.reduceNeg, q0, q1, q7, q8]
  refine cd_dec (fun g => ?_) (fun g => ?_)
  · have g' : (j : Int) < ((l.map clD).length : Nat) := by rw [List.length_map]; exact g
    obtain ⟨x, hx, ex⟩ := Cl_at (l := l) (j := j) (by omega)
    have hx' := hq x (List.mem_of_getElem? hx)
    unfold clD at hx'
    try simp only [go_sem, reduceIte, Nat.reduceEqDiff, Nat.reduceAdd, Nat.reduceSub, Nat.reduceMul, Nat.reduceLT, Nat.reduceLeDiff, Nat.reducePow, Int.reduceToNat, Int.reduceLT, Int.reduceLE, Int.reduceEq, Int.reduceNe, Int.reduceAdd, Int.reduceSub, Int.reduceMul, Int.reduceNeg, q0, q1, q7, q8, ex]
    refine ⟨by omega, cK_vq hx' (by simp [Heap.set]) ?_⟩
    cases hqx : q x
    · try simp only [go_sem, reduceIte, Nat.reduceEqDiff, Nat.reduceAdd, Nat.reduceSub, Nat.reduceMul, Nat.reduceLT, Nat.reduceLeDiff, Nat.reducePow, Int.reduceToNat, Int.reduceLT, Int.reduceLE, Int.reduceEq, Int.reduceNe, Int.reduceAdd, Int.reduceSub, Int.reduceMul, Int.reduceNeg, q0, q1, q7, q8, ex]
      rw [wrap_i64 (x := (j : Int) + 1) (by omega) (by omega)]
      have := idx_miss hx j2 hqx
      exact ⟨⟨j + 1, by omega, by omega, rfl⟩, by omega⟩
    · try simp only [go_sem, reduceIte, Nat.reduceEqDiff, Nat.reduceAdd, Nat.reduceSub, Nat.reduceMul, Nat.reduceLT, Nat.reduceLeDiff, Nat.reducePow, Int.reduceToNat, Int.reduceLT, Int.reduceLE, Int.reduceEq, Int.reduceNe, Int.reduceAdd, Int.reduceSub, Int.reduceMul, Int.reduceNeg, q0, q1, q7, q8, ex]
      have e : idx q l = j := by
        have := idx_hit hx j2 hqx
        unfold idx
        rw [if_pos (by omega), this]
      refine finK_var (by simp [Heap.set]) ⟨by rw [e]; rfl, rfl, rfl⟩
  · try simp only [go_sem, reduceIte, Nat.reduceEqDiff, Nat.reduceAdd, Nat.reduceSub, Nat.reduceMul, Nat.reduceLT, Nat.reduceLeDiff, Nat.reducePow, Int.reduceToNat, Int.reduceLT, Int.reduceLE, Int.reduceEq, Int.reduceNe, Int.reduceAdd, Int.reduceSub, Int.reduceMul, Int.reduceNeg, q0, q1, q7, q8]
    have e : idx q l = -1 := by
      unfold idx
      rw [if_neg]
      omega
    refine finK_var (by simp [Heap.set]) ⟨by rw [e]; rfl, rfl, rfl⟩
def guC (g : Gu) : List D := [.int .i64 g.1.op, .int .i64 g.1.id, .int .i64 g.1.lo, .int .i64 g.1.hi, .sl .none (g.1.set.map Vl.d), .str g.1.text, .sl .none (g.1.kids.map Pr.d), .int .i64 g.2.1, .int .i64 g.2.2.1, .int .i64 g.2.2.2]
theorem sum1_ok (x : Cl) (g : Gu) (b : Nat) : VQ P G 76 ([] ++ [clD x] ++ [.pb b 0]) b (guC g) (.bool (decide (x.1 = g.2.1))) := by
  simp only [clD, List.nil_append, List.cons_append]
  unfold VQ guC
  refine VC.ofs (fun | 99999999 => [(0, [0, 1, 2, 3])] | _ => []) [3] mixed Tryz.func76 rfl rfl rfl rfl (by decide +kernel) (by simp) ?_
  simp only [go_sem, reduceIte, Nat.reduceEqDiff, Nat.reduceAdd, Nat.reduceSub, Nat.reduceMul, Nat.reduceLT, Nat.reduceLeDiff, Nat.reducePow, Int.reduceToNat, Int.reduceLT, Int.reduceLE, Int.reduceEq, Int.reduceNe, Int.reduceAdd, Int.reduceSub, Int.reduceMul, Int.reduceNeg]
  refine new_1 fun b0 h1 h2 => ?_
  try simp only [go_sem, reduceIte, Nat.reduceEqDiff, Nat.reduceAdd, Nat.reduceSub, Nat.reduceMul, Nat.reduceLT, Nat.reduceLeDiff, Nat.reducePow, Int.reduceToNat, Int.reduceLT, Int.reduceLE, Int.reduceEq, Int.reduceNe, Int.reduceAdd, Int.reduceSub, Int.reduceMul, Int.reduceNeg, h1, h2]
  exact finK_var (by simp [Heap.set, h1, h2]) ⟨rfl, rfl, rfl⟩
def hitV (r : Rw) (id : Int) : Option Int := match r.find? fun c => decide (c.1 = id) with
  | some c => if c.2.null = true then none else some c.2.n
  | none => none
def addF (g : Gu) (n : Int) (l : Ln) : Int := if matchF g.1 l.2 = true then match hitV l.2 g.2.1 with | some v => IntKind.i64.wrap (n + v) | none => n else n
def sumF (g : Gu) (t : Tbl) : Int := t.l.foldl (addF g) 0
theorem psum_ok (g : Gu) (t : Tbl) : VN P G 38 [.agg (guC g), .agg t.cells] (.int .i64 (sumF g t)) := by
  unfold VN
  refine VC.small2 fun hsm => ?_
  have z1 := hsm (.agg t.cells) (by simp) (.sl .none (t.l.map lnD)) (by simp [D.cells, Tbl.cells])
  simp only [Small, mostLen, List.length_map] at z1
  clear hsm
  refine VC.ofs (fun | 99999999 => [(0, [0, 1, 2, 3, 4, 5, 7, 8, 10, 11, 12, 13, 21, 39])] | _ => []) [4] mixed Tryz.func38 rfl rfl rfl rfl (by decide +kernel) (by simp) ?_
  have el : (t.l.map lnD).length = t.l.length := by simp
  simp only [Tbl.cells, guC]
  simp only [go_sem, reduceIte, Nat.reduceEqDiff, Nat.reduceAdd, Nat.reduceSub, Nat.reduceMul, Nat.reduceLT, Nat.reduceLeDiff, Nat.reducePow, Int.reduceToNat, Int.reduceLT, Int.reduceLE, Int.reduceEq, Int.reduceNe, Int.reduceAdd, Int.reduceSub, Int.reduceMul, Int.reduceNeg]
  refine fun b2 => new_1 fun b3 q1 q2 => ?_
  have N := And.intro q1 q2
  try simp only [go_sem, reduceIte, Nat.reduceEqDiff, Nat.reduceAdd, Nat.reduceSub, Nat.reduceMul, Nat.reduceLT, Nat.reduceLeDiff, Nat.reducePow, Int.reduceToNat, Int.reduceLT, Int.reduceLE, Int.reduceEq, Int.reduceNe, Int.reduceAdd, Int.reduceSub, Int.reduceMul, Int.reduceNeg, q1, q2, el]
  refine vwq_loop (fun v => ∃ (j : Nat), j ≤ t.l.length ∧ v.σ 2 = .pb b2 0 ∧ v.σ 3 = .pb b3 0 ∧ v.σ 5 = .int .i64 ((t.l.take j).foldl (addF g) 0) ∧ v.σ 10 = .sl .none (t.l.map lnD) ∧ v.σ 11 = .int .i64 t.l.length ∧ v.σ 12 = .int .i64 j ∧ v.β b2 = some (guC g) ∧ v.β b3 = some t.cells ∧ v.ω = []) (fun v => t.l.length - (ival (v.σ 12)).toNat) ⟨0, by omega, rfl, rfl, rfl, rfl, rfl, rfl, by simp [Heap.set, q1, q2, guC], by simp [Heap.set, Tbl.cells], rfl⟩ ?_
  clear q1 q2
  rintro σ β ω ⟨j, hj, q2, q3, q5, q10, q11, q12, e2, e3, rfl⟩
  dsimp only [guC, Tbl.cells] at q2 q3 q5 q10 q11 q12 e2 e3
  obtain ⟨n, hn⟩ : ∃ n, (t.l.take j).foldl (addF g) 0 = n := ⟨_, rfl⟩
  rw [hn] at q5
  try simp only [go_sem, reduceIte, Nat.reduceEqDiff, Nat.reduceAdd, Nat.reduceSub, Nat.reduceMul, Nat.reduceLT, Nat.reduceLeDiff, Nat.reducePow, Int.reduceToNat, Int.reduceLT, Int.reduceLE, Int.reduceEq, Int.reduceNe, Int.reduceAdd, Int.reduceSub, Int.reduceMul, Int.reduceNeg, q2, q3, q5, q10, q11, q12, el, e2, e3]
  refine cd_dec (fun k => ?_) (fun k => ?_)
  · have k' := eq_true k
    obtain ⟨x, hx, ex⟩ := Ln_at (l := t.l) (j := j) (by omega)
    have hm := pMatch_ok (G := G) x.2 g.1
    simp only [Pr.cells] at hm
    have c1 : ((0 : Int) ≤ j) = True := eq_true (by omega)
    have wj := wrap_i64 (x := (j : Int) + 1) (by omega) (by omega)
    have hs : (t.l.take (j + 1)).foldl (addF g) 0 = addF g n x := by
      obtain ⟨h1, h2⟩ := List.getElem?_eq_some_iff.1 hx
      rw [List.take_succ_eq_append_getElem h1, List.foldl_append, hn, h2]; rfl
    obtain ⟨A, hA⟩ : ∃ A, (t.l.take (j + 1)).foldl (addF g) 0 = A := ⟨_, rfl⟩
    rw [hA] at hs
    have N := trivial
    try simp only [go_sem, reduceIte, Nat.reduceEqDiff, Nat.reduceAdd, Nat.reduceSub, Nat.reduceMul, Nat.reduceLT, Nat.reduceLeDiff, Nat.reducePow, Int.reduceToNat, Int.reduceLT, Int.reduceLE, Int.reduceEq, Int.reduceNe, Int.reduceAdd, Int.reduceSub, Int.reduceMul, Int.reduceNeg, q2, q3, q5, q10, q11, q12, el, e2, e3, ex, c1, k', wj]
    refine new_any fun b7 hb7 => ?_
    have N := And.intro N (box_ne hb7 e2)
    have N := And.intro N (box_ne hb7 e3)
    generalize hβ_ : Heap.set _ b7 _ = β_
    have e7 := hit_set hβ_
    have e2 := keep_new hβ_ hb7 e2
    have e3 := keep_new hβ_ hb7 e3
    clear hβ_ hb7
    try simp only [go_sem, reduceIte, Nat.reduceEqDiff, Nat.reduceAdd, Nat.reduceSub, Nat.reduceMul, Nat.reduceLT, Nat.reduceLeDiff, Nat.reducePow, Int.reduceToNat, Int.reduceLT, Int.reduceLE, Int.reduceEq, Int.reduceNe, Int.reduceAdd, Int.reduceSub, Int.reduceMul, Int.reduceNeg, N, q2, q3, q5, q10, q11, q12, el, e2, e3, ex, c1, k', wj, e7]
    (first | refine cK_vn (hm) ?_ | refine cE_vn (hm) ?_)
    unfold addF at hs
    cases hmx : matchF g.1 x.2
    · rw [hmx] at hs
      try simp only [go_sem, reduceIte, Nat.reduceEqDiff, Nat.reduceAdd, Nat.reduceSub, Nat.reduceMul, Nat.reduceLT, Nat.reduceLeDiff, Nat.reducePow, Int.reduceToNat, Int.reduceLT, Int.reduceLE, Int.reduceEq, Int.reduceNe, Int.reduceAdd, Int.reduceSub, Int.reduceMul, Int.reduceNeg, N, q2, q3, q5, q10, q11, q12, el, e2, e3, ex, c1, k', wj, e7]
      exact ⟨⟨j + 1, by omega, by rw [hA, hs]; rfl, rfl, rfl, rfl⟩, by omega⟩
    · rw [hmx] at hs
      try simp only [go_sem, reduceIte, Nat.reduceEqDiff, Nat.reduceAdd, Nat.reduceSub, Nat.reduceMul, Nat.reduceLT, Nat.reduceLeDiff, Nat.reducePow, Int.reduceToNat, Int.reduceLT, Int.reduceLE, Int.reduceEq, Int.reduceNe, Int.reduceAdd, Int.reduceSub, Int.reduceMul, Int.reduceNeg, N, q2, q3, q5, q10, q11, q12, el, e2, e3, ex, c1, k', wj, e7]
      refine cK_vq (IndexCl_ok x.2 (fun c => decide (c.1 = g.2.1)) b2 (guC g) fun y _ => sum1_ok y g b2) e2 ?_
      unfold hitV at hs
      rcases idx_find (fun c : Cl => decide (c.1 = g.2.1)) x.2 with ⟨h1, h2⟩ | ⟨i, y, h1, h2, h3, h4⟩
      · have h1' := eq_false (show ¬ 0 ≤ idx (fun c : Cl => decide (c.1 = g.2.1)) x.2 by omega)
        rw [h2] at hs
        try simp only [go_sem, reduceIte, Nat.reduceEqDiff, Nat.reduceAdd, Nat.reduceSub, Nat.reduceMul, Nat.reduceLT, Nat.reduceLeDiff, Nat.reducePow, Int.reduceToNat, Int.reduceLT, Int.reduceLE, Int.reduceEq, Int.reduceNe, Int.reduceAdd, Int.reduceSub, Int.reduceMul, Int.reduceNeg, N, q2, q3, q5, q10, q11, q12, el, e2, e3, ex, c1, k', wj, e7, h1']
        exact ⟨⟨j + 1, by omega, by rw [hA, hs]; rfl, rfl, rfl, rfl⟩, by omega⟩
      · rw [h1]
        rw [h4] at hs
        dsimp only at hs
        obtain ⟨y', hy', ey⟩ := Cl_at (l := x.2) (j := i) h2
        obtain rfl : y' = y := Option.some.inj (hy'.symm.trans h3)
        have c2 : ((0 : Int) ≤ i) = True := eq_true (by omega)
        have c3 : ((i : Int) < ((x.2.map clD).length : Nat)) = True := eq_true (by rw [List.length_map]; omega)
        cases hny : y'.2.null
        · rw [hny] at hs
          try simp only [go_sem, reduceIte, Nat.reduceEqDiff, Nat.reduceAdd, Nat.reduceSub, Nat.reduceMul, Nat.reduceLT, Nat.reduceLeDiff, Nat.reducePow, Int.reduceToNat, Int.reduceLT, Int.reduceLE, Int.reduceEq, Int.reduceNe, Int.reduceAdd, Int.reduceSub, Int.reduceMul, Int.reduceNeg, N, q2, q3, q5, q10, q11, q12, el, e2, e3, ex, c1, k', wj, e7, c2, c3, ey, hny]
          exact ⟨⟨j + 1, by omega, by rw [hA, hs]; rfl, rfl, rfl, rfl⟩, by omega⟩
        · rw [hny] at hs
          try simp only [go_sem, reduceIte, Nat.reduceEqDiff, Nat.reduceAdd, Nat.reduceSub, Nat.reduceMul, Nat.reduceLT, Nat.reduceLeDiff, Nat.reducePow, Int.reduceToNat, Int.reduceLT, Int.reduceLE, Int.reduceEq, Int.reduceNe, Int.reduceAdd, Int.reduceSub, Int.reduceMul, Int.reduceNeg, N, q2, q3, q5, q10, q11, q12, el, e2, e3, ex, c1, k', wj, e7, c2, c3, ey, hny]
          exact ⟨⟨j + 1, by omega, by rw [hA, hs]; rfl, rfl, rfl, rfl⟩, by omega⟩
  · try simp only [go_sem, reduceIte, Nat.reduceEqDiff, Nat.reduceAdd, Nat.reduceSub, Nat.reduceMul, Nat.reduceLT, Nat.reduceLeDiff, Nat.reducePow, Int.reduceToNat, Int.reduceLT, Int.reduceLE, Int.reduceEq, Int.reduceNe, Int.reduceAdd, Int.reduceSub, Int.reduceMul, Int.reduceNeg, q2, q3, q5, q10, q11, q12]
    obtain rfl : j = t.l.length := by omega
    rw [List.take_length] at hn
    exact finK_drop ⟨by rw [← hn]; rfl, rfl, rfl⟩
def badG (g : Gu) (n : Int) : Bool := decide (n < g.2.2.1 ∨ g.2.2.2 < n)
def checkF (t : Tbl) (gs : List Gu) : Int × Int := if gs.findIdx (fun g => badG g (sumF g t)) < gs.length then ((gs.findIdx fun g => badG g (sumF g t) : Nat), 270) else (gs.length, 0)
theorem Check_ok (g : Pg) (t : Tbl) : VN P G 16 [.agg g.cells, .agg t.cells] (.tup [.int .i64 (checkF t g.2.2.2).1, .int .i64 (checkF t g.2.2.2).2]) := by
  unfold VN
  refine VC.small2 fun hsm => ?_
  have z1 := hsm (.agg g.cells) (by simp) (.sl .none (g.2.2.2.map guD)) (by simp [D.cells, Pg.cells])
  simp only [Small, mostLen, List.length_map] at z1
  clear hsm
  refine VC.ofs (fun | 99999999 => [(0, [0, 1, 2, 3, 4, 5, 6, 7, 8, 10, 11, 12, 13, 29])] | _ => []) [4, 5] mixed Tryz.func16 rfl rfl rfl rfl (by decide +kernel) (by simp) ?_
  have el : (g.2.2.2.map guD).length = g.2.2.2.length := by simp
  simp only [Tbl.cells, Pg.cells16, Pg.c16]
  simp only [go_sem, reduceIte, Nat.reduceEqDiff, Nat.reduceAdd, Nat.reduceSub, Nat.reduceMul, Nat.reduceLT, Nat.reduceLeDiff, Nat.reducePow, Int.reduceToNat, Int.reduceLT, Int.reduceLE, Int.reduceEq, Int.reduceNe, Int.reduceAdd, Int.reduceSub, Int.reduceMul, Int.reduceNeg]
  refine fun b2 => new_1 fun b3 q1 q2 => ?_
  have N := And.intro q1 q2
  try simp only [go_sem, reduceIte, Nat.reduceEqDiff, Nat.reduceAdd, Nat.reduceSub, Nat.reduceMul, Nat.reduceLT, Nat.reduceLeDiff, Nat.reducePow, Int.reduceToNat, Int.reduceLT, Int.reduceLE, Int.reduceEq, Int.reduceNe, Int.reduceAdd, Int.reduceSub, Int.reduceMul, Int.reduceNeg, q1, q2, el]
  refine vwq_loop (fun v => ∃ (j : Nat), j ≤ g.2.2.2.length ∧ j ≤ g.2.2.2.findIdx (fun x => badG x (sumF x t)) ∧ v.σ 2 = .pb b2 0 ∧ v.σ 3 = .pb b3 0 ∧ v.σ 10 = .sl .none (g.2.2.2.map guD) ∧ v.σ 11 = .int .i64 g.2.2.2.length ∧ v.σ 12 = .int .i64 j ∧ v.β b2 = some g.c16 ∧ v.β b3 = some t.cells ∧ v.ω = []) (fun v => g.2.2.2.length - (ival (v.σ 12)).toNat) ⟨0, by omega, by omega, rfl, rfl, rfl, rfl, rfl, by simp [Heap.set, q1, q2, Pg.c16], by simp [Heap.set, Tbl.cells], rfl⟩ ?_
  clear q1 q2
  rintro σ β ω ⟨j, hj, hf, q2, q3, q10, q11, q12, e2, e3, rfl⟩
  dsimp only [Pg.c16, Tbl.cells] at q2 q3 q10 q11 q12 e2 e3
  try simp only [go_sem, reduceIte, Nat.reduceEqDiff, Nat.reduceAdd, Nat.reduceSub, Nat.reduceMul, Nat.reduceLT, Nat.reduceLeDiff, Nat.reducePow, Int.reduceToNat, Int.reduceLT, Int.reduceLE, Int.reduceEq, Int.reduceNe, Int.reduceAdd, Int.reduceSub, Int.reduceMul, Int.reduceNeg, q2, q3, q10, q11, q12, el, e2, e3]
  refine cd_dec (fun k => ?_) (fun k => ?_)
  · have k' := eq_true k
    obtain ⟨x, hx, ex⟩ := Gu_at (l := g.2.2.2) (j := j) (by omega)
    have hs := psum_ok (G := G) x t
    simp only [guC, Tbl.cells] at hs
    have c1 : ((0 : Int) ≤ j) = True := eq_true (by omega)
    have wj := wrap_i64 (x := (j : Int) + 1) (by omega) (by omega)
    have N := trivial
    try simp only [go_sem, reduceIte, Nat.reduceEqDiff, Nat.reduceAdd, Nat.reduceSub, Nat.reduceMul, Nat.reduceLT, Nat.reduceLeDiff, Nat.reducePow, Int.reduceToNat, Int.reduceLT, Int.reduceLE, Int.reduceEq, Int.reduceNe, Int.reduceAdd, Int.reduceSub, Int.reduceMul, Int.reduceNeg, q2, q3, q10, q11, q12, el, e2, e3, ex, c1, k', wj]
    refine new_any fun b7 hb7 => ?_
    have N := And.intro N (box_ne hb7 e2)
    have N := And.intro N (box_ne hb7 e3)
    generalize hβ_ : Heap.set _ b7 _ = β_
    have e7 := hit_set hβ_
    have e2 := keep_new hβ_ hb7 e2
    have e3 := keep_new hβ_ hb7 e3
    clear hβ_ hb7
    try simp only [go_sem, reduceIte, Nat.reduceEqDiff, Nat.reduceAdd, Nat.reduceSub, Nat.reduceMul, Nat.reduceLT, Nat.reduceLeDiff, Nat.reducePow, Int.reduceToNat, Int.reduceLT, Int.reduceLE, Int.reduceEq, Int.reduceNe, Int.reduceAdd, Int.reduceSub, Int.reduceMul, Int.reduceNeg, N, q2, q3, q10, q11, q12, el, e2, e3, ex, c1, k', wj, e7]
    (first | refine cK_vn (hs) ?_ | refine cE_vn (hs) ?_)
    try simp only [go_sem, reduceIte, Nat.reduceEqDiff, Nat.reduceAdd, Nat.reduceSub, Nat.reduceMul, Nat.reduceLT, Nat.reduceLeDiff, Nat.reducePow, Int.reduceToNat, Int.reduceLT, Int.reduceLE, Int.reduceEq, Int.reduceNe, Int.reduceAdd, Int.reduceSub, Int.reduceMul, Int.reduceNeg, N, q2, q3, q10, q11, q12, el, e2, e3, ex, c1, k', wj, e7]
    refine cd_dec (fun kb => ?_) (fun kb => ?_)
    · have hi := idx_hit (q := fun x => badG x (sumF x t)) hx hf (decide_eq_true kb)
      have hF : checkF t g.2.2.2 = ((j : Int), 270) := by unfold checkF; rw [if_pos (by omega), hi]
      rw [hF]
      try simp only [go_sem, reduceIte, Nat.reduceEqDiff, Nat.reduceAdd, Nat.reduceSub, Nat.reduceMul, Nat.reduceLT, Nat.reduceLeDiff, Nat.reducePow, Int.reduceToNat, Int.reduceLT, Int.reduceLE, Int.reduceEq, Int.reduceNe, Int.reduceAdd, Int.reduceSub, Int.reduceMul, Int.reduceNeg, N, q2, q3, q10, q11, q12, el, e2, e3, ex, c1, k', wj, e7]
      exact finK_drop ⟨rfl, rfl, rfl⟩
    · have hi := idx_miss (q := fun x => badG x (sumF x t)) hx hf (decide_eq_false kb)
      try simp only [go_sem, reduceIte, Nat.reduceEqDiff, Nat.reduceAdd, Nat.reduceSub, Nat.reduceMul, Nat.reduceLT, Nat.reduceLeDiff, Nat.reducePow, Int.reduceToNat, Int.reduceLT, Int.reduceLE, Int.reduceEq, Int.reduceNe, Int.reduceAdd, Int.reduceSub, Int.reduceMul, Int.reduceNeg, N, q2, q3, q10, q11, q12, el, e2, e3, ex, c1, k', wj, e7]
      exact ⟨⟨j + 1, by omega, by omega, rfl, rfl, rfl⟩, by omega⟩
  · have hF : checkF t g.2.2.2 = ((g.2.2.2.length : Int), 0) := by unfold checkF; rw [if_neg (by omega)]
    rw [hF]
    try simp only [go_sem, reduceIte, Nat.reduceEqDiff, Nat.reduceAdd, Nat.reduceSub, Nat.reduceMul, Nat.reduceLT, Nat.reduceLeDiff, Nat.reducePow, Int.reduceToNat, Int.reduceLT, Int.reduceLE, Int.reduceEq, Int.reduceNe, Int.reduceAdd, Int.reduceSub, Int.reduceMul, Int.reduceNeg, q2, q3, q10, q11, q12, e2, el]
    exact finK_drop ⟨rfl, rfl, rfl⟩
def addL : Int → List Rw → List Ln
  | _, [] => []
  | n, r :: l => (n, r) :: addL (n + 1) l
theorem addL_snoc : ∀ (n : Int) (l : List Rw) (r : Rw), addL n (l ++ [r]) = addL n l ++ [(n + l.length, r)]
  | n, [], r => by simp [addL]
  | n, a :: l, r => by
    have ih := addL_snoc (n + 1) l r
    simp only [List.cons_append, addL, ih, List.length_cons]
    simp only [List.cons.injEq, true_and, List.append_cancel_left_eq, Prod.mk.injEq, and_true]
    omega
theorem addL_len : ∀ (n : Int) (l : List Rw), (addL n l).length = l.length
  | _, [] => rfl
  | n, a :: l => by simp [addL, addL_len]
def Tbl.nul : Tbl := ⟨0, []⟩
def keepL (g : Pg) (t : Tbl) : List Ln := t.l.filter fun l => !matchF g.2.1 l.2
def runF (g : Pg) (t : Tbl) : Tbl × Int :=
  if (checkF t g.2.2.2).2 ≠ 0 then (Tbl.nul, (checkF t g.2.2.2).2)
  else if 4096 < ((keepL g t).length : Int) + g.2.2.1.length ∨ 4611686018427387904 - (g.2.2.1.length : Int) < t.next then (Tbl.nul, 2)
  else (⟨t.next + g.2.2.1.length, keepL g t ++ addL t.next g.2.2.1⟩, 0)
theorem Ln_cells2 (l : List Ln) : ∀ x ∈ l.map lnD, x.cells.length = 2 := fun x hx => by
  obtain ⟨y, _, rfl⟩ := List.mem_map.1 hx; rfl
set_option maxHeartbeats 4000000 in
theorem Run_ok (g : Pg) (t : Tbl) (hn : I64 t.next) (ht : t.l.length ≤ 1048576) : VN P G 11 [.agg g.cells, .agg t.cells] (.tup [.agg (runF g t).1.cells, .int .i64 (runF g t).2]) := by
  have hc := Check_ok (G := G) g t
  obtain ⟨V, hV⟩ : ∃ V, runF g t = V := ⟨_, rfl⟩
  rw [hV]
  unfold runF at hV
  generalize checkF t g.2.2.2 = c at hc hV
  simp only [Tbl.cells, Pg.cells16, Pg.c16] at hc
  unfold VN
  refine VC.small2 fun hsm => ?_
  have z1 := hsm (.agg g.cells) (by simp) (.sl .none (g.2.2.1.map rwD)) (by simp [D.cells, Pg.cells])
  have z2 := hsm (.agg t.cells) (by simp) (.sl .none (t.l.map lnD)) (by simp [D.cells, Tbl.cells])
  simp only [Small, mostLen, List.length_map] at z1 z2
  clear hsm
  refine VC.ofc (fun | 99999999 => [(0, [0, 1, 2, 3, 4, 5, 7, 8, 10, 12, 20, 27, 28, 29, 30, 38, 62, 65, 66, 67, 68])] | _ => []) [.cell 4 33, .tmp 5] mixed Tryz.func11 rfl rfl rfl rfl (by decide +kernel) (by simp) ?_
  have el : (t.l.map lnD).length = t.l.length := by simp
  have ea : (g.2.2.1.map rwD).length = g.2.2.1.length := by simp
  simp only [Tbl.cells, Pg.cells16, Pg.c16]
  simp only [go_sem, reduceIte, Nat.reduceEqDiff, Nat.reduceAdd, Nat.reduceSub, Nat.reduceMul, Nat.reduceLT, Nat.reduceLeDiff, Nat.reducePow, Int.reduceToNat, Int.reduceLT, Int.reduceLE, Int.reduceEq, Int.reduceNe, Int.reduceAdd, Int.reduceSub, Int.reduceMul, Int.reduceNeg]
  intro b2
  generalize hβ : Heap.set Heap.nil b2 _ = β0
  have e2 := hit_set hβ
  clear hβ
  have N := trivial
  try simp only [go_sem, reduceIte, Nat.reduceEqDiff, Nat.reduceAdd, Nat.reduceSub, Nat.reduceMul, Nat.reduceLT, Nat.reduceLeDiff, Nat.reducePow, Int.reduceToNat, Int.reduceLT, Int.reduceLE, Int.reduceEq, Int.reduceNe, Int.reduceAdd, Int.reduceSub, Int.reduceMul, Int.reduceNeg, e2]
  refine new_any fun b3 hb3 => ?_
  have N := And.intro N (box_ne hb3 e2)
  generalize hβ_ : Heap.set _ b3 _ = β_
  have e3 := hit_set hβ_
  have e2 := keep_new hβ_ hb3 e2
  clear hβ_ hb3
  try simp only [go_sem, reduceIte, Nat.reduceEqDiff, Nat.reduceAdd, Nat.reduceSub, Nat.reduceMul, Nat.reduceLT, Nat.reduceLeDiff, Nat.reducePow, Int.reduceToNat, Int.reduceLT, Int.reduceLE, Int.reduceEq, Int.reduceNe, Int.reduceAdd, Int.reduceSub, Int.reduceMul, Int.reduceNeg, N, e2, e3]
  refine new_any fun b4 hb4 => ?_
  have N := And.intro N (box_ne hb4 e2)
  have N := And.intro N (box_ne hb4 e3)
  generalize hβ_ : Heap.set _ b4 _ = β_
  have e4 := hit_set hβ_
  have e2 := keep_new hβ_ hb4 e2
  have e3 := keep_new hβ_ hb4 e3
  clear hβ_ hb4
  try simp only [go_sem, reduceIte, Nat.reduceEqDiff, Nat.reduceAdd, Nat.reduceSub, Nat.reduceMul, Nat.reduceLT, Nat.reduceLeDiff, Nat.reducePow, Int.reduceToNat, Int.reduceLT, Int.reduceLE, Int.reduceEq, Int.reduceNe, Int.reduceAdd, Int.reduceSub, Int.reduceMul, Int.reduceNeg, N, e2, e3, e4]
  (first | refine cK_vn (hc) ?_ | refine cE_vn (hc) ?_)
  try simp only [go_sem, reduceIte, Nat.reduceEqDiff, Nat.reduceAdd, Nat.reduceSub, Nat.reduceMul, Nat.reduceLT, Nat.reduceLeDiff, Nat.reducePow, Int.reduceToNat, Int.reduceLT, Int.reduceLE, Int.reduceEq, Int.reduceNe, Int.reduceAdd, Int.reduceSub, Int.reduceMul, Int.reduceNeg, N, e2, e3, e4]
  by_cases k : c.2 = 0
  rotate_left
  · rw [if_pos k] at hV
    subst hV
    try simp only [go_sem, reduceIte, Nat.reduceEqDiff, Nat.reduceAdd, Nat.reduceSub, Nat.reduceMul, Nat.reduceLT, Nat.reduceLeDiff, Nat.reducePow, Int.reduceToNat, Int.reduceLT, Int.reduceLE, Int.reduceEq, Int.reduceNe, Int.reduceAdd, Int.reduceSub, Int.reduceMul, Int.reduceNeg, N, e2, e3, e4, ne_eq, k]
    exact finK_drop ⟨rfl, rfl, rfl⟩
  rw [if_neg (fun h => h k)] at hV
  try simp only [go_sem, reduceIte, Nat.reduceEqDiff, Nat.reduceAdd, Nat.reduceSub, Nat.reduceMul, Nat.reduceLT, Nat.reduceLeDiff, Nat.reducePow, Int.reduceToNat, Int.reduceLT, Int.reduceLE, Int.reduceEq, Int.reduceNe, Int.reduceAdd, Int.reduceSub, Int.reduceMul, Int.reduceNeg, N, e2, e3, e4, ne_eq, k]
  refine new_any fun b8 hb8 => ?_
  have N := And.intro N (box_ne hb8 e2)
  have N := And.intro N (box_ne hb8 e3)
  have N := And.intro N (box_ne hb8 e4)
  generalize hβ_ : Heap.set _ b8 _ = β_
  have e8 := hit_set hβ_
  have e2 := keep_new hβ_ hb8 e2
  have e3 := keep_new hβ_ hb8 e3
  have e4 := keep_new hβ_ hb8 e4
  clear hβ_ hb8
  try simp only [go_sem, reduceIte, Nat.reduceEqDiff, Nat.reduceAdd, Nat.reduceSub, Nat.reduceMul, Nat.reduceLT, Nat.reduceLeDiff, Nat.reducePow, Int.reduceToNat, Int.reduceLT, Int.reduceLE, Int.reduceEq, Int.reduceNe, Int.reduceAdd, Int.reduceSub, Int.reduceMul, Int.reduceNeg, N, e2, e3, e4, e8, el]
  refine vwq_loop (fun v => ∃ (j : Nat) (tk : Tk), j ≤ t.l.length ∧ v.σ 2 = .pb b2 0 ∧ v.σ 3 = .pb b3 0 ∧ v.σ 4 = .pb b4 0 ∧ v.σ 8 = .pb b8 0 ∧ v.σ 27 = .sl .none (t.l.map lnD) ∧ v.σ 28 = .int .i64 t.l.length ∧ v.σ 29 = .int .i64 j ∧ v.β b2 = some g.c16 ∧ v.β b3 = some t.cells ∧ v.β b4 = some [.int .i64 0, .sl .full []] ∧ v.β b8 = some [.int .i64 t.next, .sl tk (((t.l.take j).filter fun l => !matchF g.2.1 l.2).map lnD)] ∧ TW 2 tk v.ω) (fun v => t.l.length - (ival (v.σ 29)).toNat) ⟨0, .full, by omega, rfl, rfl, rfl, rfl, rfl, rfl, rfl, e2, e3, e4, e8, TW.full 2⟩ ?_
  clear e2 e3 e4 e8
  rintro σ β ω ⟨j, tk, hj, q2, q3, q4, q8, q27, q28, q29, e2, e3, e4, e8, hw⟩
  dsimp only [Pg.c16, Tbl.cells] at q2 q3 q4 q8 q27 q28 q29 e2 e3 e4 e8 hw
  have hto := hw.ok
  have htg := hw.gone
  obtain ⟨L, hL⟩ : ∃ L, ((t.l.take j).filter fun l => !matchF g.2.1 l.2) = L := ⟨_, rfl⟩
  have hLl : L.length ≤ j := by rw [← hL]; exact Nat.le_trans (List.length_filter_le _ _) (by simp; omega)
  rw [hL] at e8
  try simp only [go_sem, reduceIte, Nat.reduceEqDiff, Nat.reduceAdd, Nat.reduceSub, Nat.reduceMul, Nat.reduceLT, Nat.reduceLeDiff, Nat.reducePow, Int.reduceToNat, Int.reduceLT, Int.reduceLE, Int.reduceEq, Int.reduceNe, Int.reduceAdd, Int.reduceSub, Int.reduceMul, Int.reduceNeg, q2, q3, q4, q8, q27, q28, q29, e2, e3, e4, e8]
  refine cd_dec (fun kj => ?_) (fun kj => ?_)
  · have k' := eq_true kj
    obtain ⟨x, hx, ex⟩ := Ln_at (l := t.l) (j := j) (by omega)
    have hm := pMatch_ok (G := G) x.2 g.2.1
    simp only [Pr.cells] at hm
    have c1 : ((0 : Int) ≤ j) = True := eq_true (by omega)
    have wj := wrap_i64 (x := (j : Int) + 1) (by omega) (by omega)
    have hs : ((t.l.take (j + 1)).filter fun l => !matchF g.2.1 l.2) = L ++ (if matchF g.2.1 x.2 = true then [] else [x]) := by
      obtain ⟨h1, h2⟩ := List.getElem?_eq_some_iff.1 hx
      rw [List.take_succ_eq_append_getElem h1, List.filter_append, hL, h2]
      by_cases h : matchF g.2.1 x.2 = true <;> simp [h]
    try simp only [go_sem, reduceIte, Nat.reduceEqDiff, Nat.reduceAdd, Nat.reduceSub, Nat.reduceMul, Nat.reduceLT, Nat.reduceLeDiff, Nat.reducePow, Int.reduceToNat, Int.reduceLT, Int.reduceLE, Int.reduceEq, Int.reduceNe, Int.reduceAdd, Int.reduceSub, Int.reduceMul, Int.reduceNeg, q2, q3, q4, q8, q27, q28, q29, e2, e3, e4, e8, el, ex, c1, k', wj]
    refine new_any fun b10 hb10 => ?_
    have N := And.intro N (box_ne hb10 e2)
    have N := And.intro N (box_ne hb10 e3)
    have N := And.intro N (box_ne hb10 e4)
    have N := And.intro N (box_ne hb10 e8)
    generalize hβ_ : Heap.set _ b10 _ = β_
    have e10 := hit_set hβ_
    have e2 := keep_new hβ_ hb10 e2
    have e3 := keep_new hβ_ hb10 e3
    have e4 := keep_new hβ_ hb10 e4
    have e8 := keep_new hβ_ hb10 e8
    clear hβ_ hb10
    try simp only [go_sem, reduceIte, Nat.reduceEqDiff, Nat.reduceAdd, Nat.reduceSub, Nat.reduceMul, Nat.reduceLT, Nat.reduceLeDiff, Nat.reducePow, Int.reduceToNat, Int.reduceLT, Int.reduceLE, Int.reduceEq, Int.reduceNe, Int.reduceAdd, Int.reduceSub, Int.reduceMul, Int.reduceNeg, N, q2, q3, q4, q8, q27, q28, q29, e2, e3, e4, e8, e10, el, ex, c1, k', wj]
    (first | refine cK_vn (hm) ?_ | refine cE_vn (hm) ?_)
    cases hmx : matchF g.2.1 x.2
    · rw [hmx] at hs
      try simp only [go_sem, reduceIte, Nat.reduceEqDiff, Nat.reduceAdd, Nat.reduceSub, Nat.reduceMul, Nat.reduceLT, Nat.reduceLeDiff, Nat.reducePow, Int.reduceToNat, Int.reduceLT, Int.reduceLE, Int.reduceEq, Int.reduceNe, Int.reduceAdd, Int.reduceSub, Int.reduceMul, Int.reduceNeg, N, q2, q3, q4, q8, q27, q28, q29, e2, e3, e4, e8, e10, el, ex, c1, k', wj, hto, htg]
      refine ⟨Ln_cells2 L, by rw [List.length_map]; omega, fun t' _ => ⟨⟨j + 1, .live t' 2, by omega, rfl, ?_⟩, by omega⟩⟩
      rw [hs]
      exact ⟨rfl, rfl, by simp [lnD], TW.live 2 t'⟩
    · rw [hmx] at hs
      try simp only [go_sem, reduceIte, Nat.reduceEqDiff, Nat.reduceAdd, Nat.reduceSub, Nat.reduceMul, Nat.reduceLT, Nat.reduceLeDiff, Nat.reducePow, Int.reduceToNat, Int.reduceLT, Int.reduceLE, Int.reduceEq, Int.reduceNe, Int.reduceAdd, Int.reduceSub, Int.reduceMul, Int.reduceNeg, N, q2, q3, q4, q8, q27, q28, q29, e2, e3, e4, e8, e10, el, ex, c1, k', wj, hto, htg]
      refine ⟨⟨j + 1, tk, by omega, rfl, rfl, rfl, ?_, hw⟩, by omega⟩
      rw [hs]; simp
  · obtain rfl : j = t.l.length := by omega
    rw [List.take_length] at hL
    have hK : keepL g t = L := hL
    rw [hK] at hV
    clear hL hK
    try simp only [go_sem, reduceIte, Nat.reduceEqDiff, Nat.reduceAdd, Nat.reduceSub, Nat.reduceMul, Nat.reduceLT, Nat.reduceLeDiff, Nat.reducePow, Int.reduceToNat, Int.reduceLT, Int.reduceLE, Int.reduceEq, Int.reduceNe, Int.reduceAdd, Int.reduceSub, Int.reduceMul, Int.reduceNeg, q2, q3, q4, q8, q27, q28, q29, e2, e3, e4, e8, ea]
    have eL : (L.map lnD).length = L.length := by simp
    have w1 := wrap_i64 (x := ((L.length : Nat) : Int) + g.2.2.1.length) (by omega) (by omega)
    have w2 := wrap_i64 (x := 4611686018427387904 - ((g.2.2.1.length : Nat) : Int)) (by omega) (by omega)
    rw [eL, w1, w2]
    refine cd_dec (fun kk => ?_) (fun kk => ?_)
    · rw [if_pos kk] at hV
      subst hV
      try simp only [go_sem, reduceIte, Nat.reduceEqDiff, Nat.reduceAdd, Nat.reduceSub, Nat.reduceMul, Nat.reduceLT, Nat.reduceLeDiff, Nat.reducePow, Int.reduceToNat, Int.reduceLT, Int.reduceLE, Int.reduceEq, Int.reduceNe, Int.reduceAdd, Int.reduceSub, Int.reduceMul, Int.reduceNeg, N, q2, q3, q4, q8, q27, q28, q29, e2, e3, e4, e8, ea]
      exact finK_drop ⟨rfl, rfl, rfl⟩
    rw [if_neg kk] at hV
    subst hV
    try simp only [go_sem, reduceIte, Nat.reduceEqDiff, Nat.reduceAdd, Nat.reduceSub, Nat.reduceMul, Nat.reduceLT, Nat.reduceLeDiff, Nat.reducePow, Int.reduceToNat, Int.reduceLT, Int.reduceLE, Int.reduceEq, Int.reduceNe, Int.reduceAdd, Int.reduceSub, Int.reduceMul, Int.reduceNeg, N, q2, q3, q4, q8, q27, q28, q29, e2, e3, e4, e8, ea]
    clear q27 q28 q29 hj kj
    refine vwq_loop (fun v => ∃ (j : Nat) (tk : Tk), j ≤ g.2.2.1.length ∧ v.σ 4 = .pb b4 0 ∧ v.σ 8 = .pb b8 0 ∧ v.σ 65 = .sl .none (g.2.2.1.map rwD) ∧ v.σ 66 = .int .i64 g.2.2.1.length ∧ v.σ 67 = .int .i64 j ∧ v.β b4 = some [.int .i64 0, .sl .full []] ∧ v.β b8 = some [.int .i64 (t.next + j), .sl tk ((L ++ addL t.next (g.2.2.1.take j)).map lnD)] ∧ TW 2 tk v.ω) (fun v => g.2.2.1.length - (ival (v.σ 67)).toNat) ⟨0, tk, by omega, rfl, rfl, rfl, rfl, rfl, e4, by simpa [addL] using e8, hw⟩ ?_
    clear e2 e3 e4 e8 q2 q3 q4 q8 hw hto htg
    rintro σ β ω ⟨j, tk, hj, q4, q8, q65, q66, q67, e4, e8, hw⟩
    dsimp only at q4 q8 q65 q66 q67 e4 e8 hw
    have hto := hw.ok
    have htg := hw.gone
    try simp only [go_sem, reduceIte, Nat.reduceEqDiff, Nat.reduceAdd, Nat.reduceSub, Nat.reduceMul, Nat.reduceLT, Nat.reduceLeDiff, Nat.reducePow, Int.reduceToNat, Int.reduceLT, Int.reduceLE, Int.reduceEq, Int.reduceNe, Int.reduceAdd, Int.reduceSub, Int.reduceMul, Int.reduceNeg, q4, q8, q65, q66, q67, e4, e8]
    refine cd_dec (fun kj => ?_) (fun kj => ?_)
    · have k' := eq_true kj
      obtain ⟨x, hx, ex⟩ := Rw_at (l := g.2.2.1) (j := j) (by omega)
      have c1 : ((0 : Int) ≤ j) = True := eq_true (by omega)
      have wj := wrap_i64 (x := (j : Int) + 1) (by omega) (by omega)
      have wn := wrap_i64 (x := t.next + (j : Int) + 1) (by omega) (by omega)
      have hs : addL t.next (g.2.2.1.take (j + 1)) = addL t.next (g.2.2.1.take j) ++ [(t.next + j, x)] := by
        obtain ⟨h1, h2⟩ := List.getElem?_eq_some_iff.1 hx
        rw [List.take_succ_eq_append_getElem h1, addL_snoc, h2, List.length_take, Nat.min_eq_left (by omega)]
      try simp only [go_sem, reduceIte, Nat.reduceEqDiff, Nat.reduceAdd, Nat.reduceSub, Nat.reduceMul, Nat.reduceLT, Nat.reduceLeDiff, Nat.reducePow, Int.reduceToNat, Int.reduceLT, Int.reduceLE, Int.reduceEq, Int.reduceNe, Int.reduceAdd, Int.reduceSub, Int.reduceMul, Int.reduceNeg, q4, q8, q65, q66, q67, e4, e8, ea, ex, c1, k', wj]
      refine new_any fun b12 hb12 => ?_
      have N := And.intro N (box_ne hb12 e4)
      have N := And.intro N (box_ne hb12 e8)
      generalize hβ_ : Heap.set _ b12 _ = β_
      have e12 := hit_set hβ_
      have e4 := keep_new hβ_ hb12 e4
      have e8 := keep_new hβ_ hb12 e8
      clear hβ_ hb12
      try simp only [go_sem, reduceIte, Nat.reduceEqDiff, Nat.reduceAdd, Nat.reduceSub, Nat.reduceMul, Nat.reduceLT, Nat.reduceLeDiff, Nat.reducePow, Int.reduceToNat, Int.reduceLT, Int.reduceLE, Int.reduceEq, Int.reduceNe, Int.reduceAdd, Int.reduceSub, Int.reduceMul, Int.reduceNeg, N, q4, q8, q65, q66, q67, e4, e8, e12, ea, ex, c1, k', wj, hto, htg, wn]
      have hl1 : (addL t.next (g.2.2.1.take j)).length ≤ j := by rw [addL_len, List.length_take]; omega
      refine ⟨Ln_cells2 _, by rw [List.length_map, List.length_append]; omega, fun t' _ => ⟨⟨j + 1, .live t' 2, by omega, rfl, ?_⟩, by omega⟩⟩
      rw [hs]
      refine ⟨?_, TW.live 2 t'⟩
      simp [lnD, Int.add_assoc]
    · try simp only [go_sem, reduceIte, Nat.reduceEqDiff, Nat.reduceAdd, Nat.reduceSub, Nat.reduceMul, Nat.reduceLT, Nat.reduceLeDiff, Nat.reducePow, Int.reduceToNat, Int.reduceLT, Int.reduceLE, Int.reduceEq, Int.reduceNe, Int.reduceAdd, Int.reduceSub, Int.reduceMul, Int.reduceNeg, q4, q8, q65, q66, q67, e4, e8]
      obtain rfl : j = g.2.2.1.length := by omega
      rw [List.take_length]
      exact finK_drop ⟨rfl, rfl, rfl⟩
end Go.Proofs.YtpblgfgcoamgmaaGreatS
namespace Go.Proofs.YtpblgfgcoamgmaaGreatS
open Go Go.Proofs.YtpblgfgcoamgmaaGreatV

variable {G : Heap}
attribute [local irreducible] VN VC VX VQ VY VW VTA VT0

theorem rEval_ok (r : Rw) : ∀ (n : Nat) (p : Pr), SizeOf.sizeOf p ≤ n → p.Lim → VN P G 36 [.agg p.cells, .agg [.sl .none (r.map clD)]] (.int .i64 (evalP r p))
  | 0, p, h, _ => by cases p; simp at h
  | n + 1, p, hn, hL => by
    obtain ⟨_, z3, hk⟩ := hL
    exact eval_step r p z3 fun k hk' => rEval_ok r n k (Nat.le_of_lt_succ (Nat.lt_of_lt_of_le (Pr.kid_lt (p := p) hk') hn)) (hk k hk')
theorem rMatch_ok (r : Rw) (p : Pr) (hL : p.Lim) : VN P G 13 [.agg p.cells, .agg [.sl .none (r.map clD)]] (.bool (matchF p r)) := by
  have h := rEval_ok (G := G) r _ p (Nat.le_refl _) hL
  unfold VN
  refine VC.ofs (fun | 99999999 => [(0, [0, 1, 2, 3, 4])] | _ => []) [4] mixed Tryz.func13 rfl rfl rfl rfl (by decide +kernel) (by simp) ?_
  simp only [go_sem, reduceIte, Nat.reduceEqDiff, Nat.reduceAdd, Nat.reduceSub, Nat.reduceMul, Nat.reduceLT, Nat.reduceLeDiff, Nat.reducePow, Int.reduceToNat, Int.reduceLT, Int.reduceLE, Int.reduceEq, Int.reduceNe, Int.reduceAdd, Int.reduceSub, Int.reduceMul, Int.reduceNeg]
  refine fun b1 => new_1 fun b2 q1 q2 => ?_
  try simp only [go_sem, reduceIte, Nat.reduceEqDiff, Nat.reduceAdd, Nat.reduceSub, Nat.reduceMul, Nat.reduceLT, Nat.reduceLeDiff, Nat.reducePow, Int.reduceToNat, Int.reduceLT, Int.reduceLE, Int.reduceEq, Int.reduceNe, Int.reduceAdd, Int.reduceSub, Int.reduceMul, Int.reduceNeg, q1, q2]
  refine cK_vn h ?_
  try simp only [go_sem, reduceIte, Nat.reduceEqDiff, Nat.reduceAdd, Nat.reduceSub, Nat.reduceMul, Nat.reduceLT, Nat.reduceLeDiff, Nat.reducePow, Int.reduceToNat, Int.reduceLT, Int.reduceLE, Int.reduceEq, Int.reduceNe, Int.reduceAdd, Int.reduceSub, Int.reduceMul, Int.reduceNeg, q1, q2]
  exact finK_drop ⟨rfl, rfl, rfl⟩
end Go.Proofs.YtpblgfgcoamgmaaGreatS
namespace Go.Proofs.YtpblgfgcoamgmaaGreatS
open Go Go.Proofs.YtpblgfgcoamgmaaGreatV

variable {G : Heap}
attribute [local irreducible] VN VC VX VQ VY VW VTA VT0 VPP VP

def getF (r : Rw) (id : Int) : Vl := match r.find? fun c => decide (c.1 = id) with
  | some c => c.2
  | none => Vl.nul
theorem hitV_get (r : Rw) (id : Int) : hitV r id = if (getF r id).null = true then none else some (getF r id).n := by
  unfold hitV getF
  cases r.find? fun c => decide (c.1 = id) <;> rfl
theorem find_drop {α : Type} {q : α → Bool} : ∀ {l : List α} {j : Nat} {x : α}, l[j]? = some x → (∀ y ∈ l.take j, q y = false) → q x = true → l.find? q = some x
  | [], j, x, h, _, _ => by simp at h
  | a :: l, 0, x, h, _, hq => by simp at h; subst h; simp [List.find?_cons, hq]
  | a :: l, j + 1, x, h, hn, hq => by
    rw [List.find?_cons, hn a (by simp)]
    exact find_drop (by simpa using h) (fun y hy => hn y (by simp [hy])) hq
theorem take_snoc' {α : Type} {q : List α} {j : Nat} {x : α} (h : q[j]? = some x) : q.take (j + 1) = q.take j ++ [x] := by
  obtain ⟨h1, h2⟩ := List.getElem?_eq_some_iff.1 h
  rw [List.take_succ_eq_append_getElem h1, h2]
theorem Get_ok (r : Rw) (id : Int) : VN P G 37 [.agg [.sl .none (r.map clD)], .int .i64 id] (.agg (getF r id).cells) := by
  unfold VN
  refine VC.small2 fun hsm => ?_
  have z1 := hsm (.agg [.sl .none (r.map clD)]) (by simp) (.sl .none (r.map clD)) (by simp [D.cells])
  simp only [Small, mostLen, List.length_map] at z1
  clear hsm
  refine VC.ofc (fun | 99999999 => [(0, [0, 1, 2, 4, 5, 10, 20])] | _ => []) [.cell 4 81] mixed Tryz.func37 rfl rfl rfl rfl (by decide +kernel) (by simp) ?_
  have el : (r.map clD).length = r.length := by simp
  simp only [go_sem, reduceIte, Nat.reduceEqDiff, Nat.reduceAdd, Nat.reduceSub, Nat.reduceMul, Nat.reduceLT, Nat.reduceLeDiff, Nat.reducePow, Int.reduceToNat, Int.reduceLT, Int.reduceLE, Int.reduceEq, Int.reduceNe, Int.reduceAdd, Int.reduceSub, Int.reduceMul, Int.reduceNeg]
  refine fun b2 => new_1 fun b4 q1 q2 => ?_
  have N := And.intro q1 q2
  generalize hβ : Heap.set _ b4 _ = β0
  have e2 : β0 b2 = some [.sl .none (r.map clD)] := by rw [← hβ]; simp [Heap.set, N]
  have e4 := hit_set hβ
  clear hβ
  refine vwq_loop (fun v => ∃ (j : Nat), j ≤ r.length ∧ (∀ y ∈ r.take j, decide (y.1 = id) = false) ∧ v.σ 1 = .int .i64 id ∧ v.σ 2 = .pb b2 0 ∧ v.σ 4 = .pb b4 0 ∧ v.σ 5 = .int .i64 j ∧ v.β b2 = some [.sl .none (r.map clD)] ∧ v.β b4 = some [.bool false, .int .i64 0, .str ByteArray.empty] ∧ v.ω = []) (fun v => r.length - (ival (v.σ 5)).toNat) ⟨0, by omega, by simp, rfl, rfl, rfl, rfl, e2, e4, rfl⟩ ?_
  clear e2 e4
  rintro σ β ω ⟨j, hj, hno, q1, q2, q4, q5, e2, e4, rfl⟩
  dsimp only at q1 q2 q4 q5 e2 e4
  try simp only [go_sem, reduceIte, Nat.reduceEqDiff, Nat.reduceAdd, Nat.reduceSub, Nat.reduceMul, Nat.reduceLT, Nat.reduceLeDiff, Nat.reducePow, Int.reduceToNat, Int.reduceLT, Int.reduceLE, Int.reduceEq, Int.reduceNe, Int.reduceAdd, Int.reduceSub, Int.reduceMul, Int.reduceNeg, q1, q2, q4, q5, e2, e4, el]
  refine cd_dec (fun g => ?_) (fun g => ?_)
  · have g' := eq_true g
    obtain ⟨x, hx, ex⟩ := Cl_at (l := r) (j := j) (by omega)
    have c1 : ((0 : Int) ≤ j) = True := eq_true (by omega)
    have wj := wrap_i64 (x := (j : Int) + 1) (by omega) (by omega)
    try simp only [go_sem, reduceIte, Nat.reduceEqDiff, Nat.reduceAdd, Nat.reduceSub, Nat.reduceMul, Nat.reduceLT, Nat.reduceLeDiff, Nat.reducePow, Int.reduceToNat, Int.reduceLT, Int.reduceLE, Int.reduceEq, Int.reduceNe, Int.reduceAdd, Int.reduceSub, Int.reduceMul, Int.reduceNeg, q1, q2, q4, q5, e2, e4, el, ex, c1, g']
    refine cd_dec (fun k => ?_) (fun k => ?_)
    · have hF : getF r id = x.2 := by
        unfold getF
        rw [find_drop (q := fun c : Cl => decide (c.1 = id)) hx hno (decide_eq_true k)]
      rw [hF]
      try simp only [go_sem, reduceIte, Nat.reduceEqDiff, Nat.reduceAdd, Nat.reduceSub, Nat.reduceMul, Nat.reduceLT, Nat.reduceLeDiff, Nat.reducePow, Int.reduceToNat, Int.reduceLT, Int.reduceLE, Int.reduceEq, Int.reduceNe, Int.reduceAdd, Int.reduceSub, Int.reduceMul, Int.reduceNeg, N, q1, q2, q4, q5, e2, e4, el, ex, c1, g']
      exact finK_drop ⟨rfl, rfl, rfl⟩
    · try simp only [go_sem, reduceIte, Nat.reduceEqDiff, Nat.reduceAdd, Nat.reduceSub, Nat.reduceMul, Nat.reduceLT, Nat.reduceLeDiff, Nat.reducePow, Int.reduceToNat, Int.reduceLT, Int.reduceLE, Int.reduceEq, Int.reduceNe, Int.reduceAdd, Int.reduceSub, Int.reduceMul, Int.reduceNeg, q1, q2, q4, q5, e2, e4, el, ex, c1, g', wj]
      refine ⟨⟨j + 1, by omega, fun y hy => ?_, rfl⟩, by omega⟩
      rw [take_snoc' hx] at hy
      rcases List.mem_append.1 hy with hy | hy
      · exact of_decide_eq_false (hno y hy)
      · simp at hy; subst hy; exact k
  · obtain rfl : j = r.length := by omega
    rw [List.take_length] at hno
    have hF : getF r id = Vl.nul := by
      unfold getF
      rw [List.find?_eq_none.2 fun y hy => by simpa using hno y hy]
    rw [hF]
    try simp only [go_sem, reduceIte, Nat.reduceEqDiff, Nat.reduceAdd, Nat.reduceSub, Nat.reduceMul, Nat.reduceLT, Nat.reduceLeDiff, Nat.reducePow, Int.reduceToNat, Int.reduceLT, Int.reduceLE, Int.reduceEq, Int.reduceNe, Int.reduceAdd, Int.reduceSub, Int.reduceMul, Int.reduceNeg, N, q1, q2, q4, q5, e2, e4, el]
    exact finK_drop ⟨rfl, rfl, rfl⟩
theorem addF_get (g : Gu) (n : Int) (l : Ln) : addF g n l = if matchF g.1 l.2 = true ∧ (getF l.2 g.2.1).null = false then IntKind.i64.wrap (n + (getF l.2 g.2.1).n) else n := by
  unfold addF
  rw [hitV_get]
  cases matchF g.1 l.2 <;> cases (getF l.2 g.2.1).null <;> simp
theorem rSum_ok (g : Gu) (t : Tbl) (hL : g.1.Lim) : VN P G 15 [.agg (guC g), .agg t.cells] (.int .i64 (sumF g t)) := by
  unfold VN
  refine VC.small2 fun hsm => ?_
  have z1 := hsm (.agg t.cells) (by simp) (.sl .none (t.l.map lnD)) (by simp [D.cells, Tbl.cells])
  simp only [Small, mostLen, List.length_map] at z1
  clear hsm
  refine VC.ofs (fun | 5 => [(0, []), (1, []), (2, []), (3, []), (4, []), (5, []), (6, []), (7, []), (8, [9]), (9, []), (10, [])] | 6 => [(0, []), (1, []), (2, []), (3, []), (4, []), (5, []), (6, []), (7, []), (8, []), (9, []), (10, []), (11, []), (12, []), (13, [])] | 99999999 => [(0, [0, 1, 2, 3, 4, 5, 6, 7, 12, 37])] | _ => []) [4] mixed Tryz.func15 rfl rfl rfl rfl (by decide +kernel) (by simp) ?_
  have el : (t.l.map lnD).length = t.l.length := by simp
  simp only [Tbl.cells, guC]
  simp only [go_sem, reduceIte, Nat.reduceEqDiff, Nat.reduceAdd, Nat.reduceSub, Nat.reduceMul, Nat.reduceLT, Nat.reduceLeDiff, Nat.reducePow, Int.reduceToNat, Int.reduceLT, Int.reduceLE, Int.reduceEq, Int.reduceNe, Int.reduceAdd, Int.reduceSub, Int.reduceMul, Int.reduceNeg]
  refine fun b2 => new_1 fun b3 q1 q2 => ?_
  have N := And.intro q1 q2
  try simp only [go_sem, reduceIte, Nat.reduceEqDiff, Nat.reduceAdd, Nat.reduceSub, Nat.reduceMul, Nat.reduceLT, Nat.reduceLeDiff, Nat.reducePow, Int.reduceToNat, Int.reduceLT, Int.reduceLE, Int.reduceEq, Int.reduceNe, Int.reduceAdd, Int.reduceSub, Int.reduceMul, Int.reduceNeg, q1, q2, el]
  refine vwq_loop (fun v => ∃ (j : Nat), j ≤ t.l.length ∧ v.σ 2 = .pb b2 0 ∧ v.σ 3 = .pb b3 0 ∧ v.σ 5 = .int .i64 ((t.l.take j).foldl (addF g) 0) ∧ v.σ 6 = .int .i64 j ∧ v.β b2 = some (guC g) ∧ v.β b3 = some t.cells ∧ v.ω = []) (fun v => t.l.length - (ival (v.σ 6)).toNat) ⟨0, by omega, rfl, rfl, rfl, rfl, by simp [Heap.set, q1, q2, guC], by simp [Heap.set, Tbl.cells], rfl⟩ ?_
  clear q1 q2
  rintro σ β ω ⟨j, hj, q2, q3, q5, q6, e2, e3, rfl⟩
  dsimp only [guC, Tbl.cells] at q2 q3 q5 q6 e2 e3
  obtain ⟨n, hn⟩ : ∃ n, (t.l.take j).foldl (addF g) 0 = n := ⟨_, rfl⟩
  rw [hn] at q5
  try simp only [go_sem, reduceIte, Nat.reduceEqDiff, Nat.reduceAdd, Nat.reduceSub, Nat.reduceMul, Nat.reduceLT, Nat.reduceLeDiff, Nat.reducePow, Int.reduceToNat, Int.reduceLT, Int.reduceLE, Int.reduceEq, Int.reduceNe, Int.reduceAdd, Int.reduceSub, Int.reduceMul, Int.reduceNeg, q2, q3, q5, q6, el, e2, e3]
  refine cd_dec (fun k => ?_) (fun k => ?_)
  · have k' := eq_true k
    obtain ⟨x, hx, ex⟩ := Ln_at (l := t.l) (j := j) (by omega)
    have hg := Get_ok (G := G) x.2 g.2.1
    have hm := rMatch_ok (G := G) x.2 g.1 hL
    simp only [Pr.cells] at hm
    have c1 : ((0 : Int) ≤ j) = True := eq_true (by omega)
    have wj := wrap_i64 (x := (j : Int) + 1) (by omega) (by omega)
    obtain ⟨A, hA⟩ : ∃ A, (t.l.take (j + 1)).foldl (addF g) 0 = A := ⟨_, rfl⟩
    have hs : addF g n x = A := by rw [← hA, take_snoc' hx, List.foldl_append, hn]; rfl
    rw [addF_get] at hs
    generalize getF x.2 g.2.1 = w at hg hs
    have N := trivial
    try simp only [go_sem, reduceIte, Nat.reduceEqDiff, Nat.reduceAdd, Nat.reduceSub, Nat.reduceMul, Nat.reduceLT, Nat.reduceLeDiff, Nat.reducePow, Int.reduceToNat, Int.reduceLT, Int.reduceLE, Int.reduceEq, Int.reduceNe, Int.reduceAdd, Int.reduceSub, Int.reduceMul, Int.reduceNeg, q2, q3, q5, q6, el, e2, e3, ex, c1, k', wj]
    (first | refine cK_vn (hg) ?_ | refine cE_vn (hg) ?_)
    simp only [Vl.cells]
    try simp only [go_sem, reduceIte, Nat.reduceEqDiff, Nat.reduceAdd, Nat.reduceSub, Nat.reduceMul, Nat.reduceLT, Nat.reduceLeDiff, Nat.reducePow, Int.reduceToNat, Int.reduceLT, Int.reduceLE, Int.reduceEq, Int.reduceNe, Int.reduceAdd, Int.reduceSub, Int.reduceMul, Int.reduceNeg, q2, q3, q5, q6, el, e2, e3, ex, c1, k', wj]
    refine new_any fun b7 hb7 => ?_
    have N := And.intro N (box_ne hb7 e2)
    have N := And.intro N (box_ne hb7 e3)
    generalize hβ_ : Heap.set _ b7 _ = β_
    have e7 := hit_set hβ_
    have e2 := keep_new hβ_ hb7 e2
    have e3 := keep_new hβ_ hb7 e3
    clear hβ_ hb7
    try simp only [go_sem, reduceIte, Nat.reduceEqDiff, Nat.reduceAdd, Nat.reduceSub, Nat.reduceMul, Nat.reduceLT, Nat.reduceLeDiff, Nat.reducePow, Int.reduceToNat, Int.reduceLT, Int.reduceLE, Int.reduceEq, Int.reduceNe, Int.reduceAdd, Int.reduceSub, Int.reduceMul, Int.reduceNeg, N, q2, q3, q5, q6, el, e2, e3, ex, c1, k', wj, e7]
    (first | refine cK_vn (hm) ?_ | refine cE_vn (hm) ?_)
    cases hmx : matchF g.1 x.2
    all_goals rw [hmx] at hs
    · try simp only [go_sem, reduceIte, Nat.reduceEqDiff, Nat.reduceAdd, Nat.reduceSub, Nat.reduceMul, Nat.reduceLT, Nat.reduceLeDiff, Nat.reducePow, Int.reduceToNat, Int.reduceLT, Int.reduceLE, Int.reduceEq, Int.reduceNe, Int.reduceAdd, Int.reduceSub, Int.reduceMul, Int.reduceNeg, N, q2, q3, q5, q6, el, e2, e3, ex, c1, k', wj, e7]
      exact ⟨⟨j + 1, by omega, by rw [hA, ← hs]; simp, rfl, rfl, rfl⟩, by omega⟩
    · cases hwn : w.null
      all_goals rw [hwn] at hs
      · try simp only [go_sem, reduceIte, Nat.reduceEqDiff, Nat.reduceAdd, Nat.reduceSub, Nat.reduceMul, Nat.reduceLT, Nat.reduceLeDiff, Nat.reducePow, Int.reduceToNat, Int.reduceLT, Int.reduceLE, Int.reduceEq, Int.reduceNe, Int.reduceAdd, Int.reduceSub, Int.reduceMul, Int.reduceNeg, N, q2, q3, q5, q6, el, e2, e3, ex, c1, k', wj, e7, hwn]
        exact ⟨⟨j + 1, by omega, by rw [hA, ← hs]; simp, rfl, rfl, rfl⟩, by omega⟩
      · try simp only [go_sem, reduceIte, Nat.reduceEqDiff, Nat.reduceAdd, Nat.reduceSub, Nat.reduceMul, Nat.reduceLT, Nat.reduceLeDiff, Nat.reducePow, Int.reduceToNat, Int.reduceLT, Int.reduceLE, Int.reduceEq, Int.reduceNe, Int.reduceAdd, Int.reduceSub, Int.reduceMul, Int.reduceNeg, N, q2, q3, q5, q6, el, e2, e3, ex, c1, k', wj, e7, hwn]
        exact ⟨⟨j + 1, by omega, by rw [hA, ← hs]; simp, rfl, rfl, rfl⟩, by omega⟩
  · try simp only [go_sem, reduceIte, Nat.reduceEqDiff, Nat.reduceAdd, Nat.reduceSub, Nat.reduceMul, Nat.reduceLT, Nat.reduceLeDiff, Nat.reducePow, Int.reduceToNat, Int.reduceLT, Int.reduceLE, Int.reduceEq, Int.reduceNe, Int.reduceAdd, Int.reduceSub, Int.reduceMul, Int.reduceNeg, q2, q3, q5, q6]
    obtain rfl : j = t.l.length := by omega
    rw [List.take_length] at hn
    exact finK_drop ⟨by rw [← hn]; rfl, rfl, rfl⟩
structure TOk (t : Tbl) : Prop where
  asc : t.l.Pairwise fun a b => a.1 < b.1
  num : ∀ l ∈ t.l, 0 ≤ l.1 ∧ l.1 < t.next
  next : 0 ≤ t.next ∧ t.next ≤ 4611686018427387904
  len : t.l.length ≤ 4096
theorem ValidTable_ok (t : Tbl) (ht : TOk t) : VN P G 12 [.agg t.cells] (.bool true) := by
  have hl := ht.len
  unfold VN
  refine VC.ofs (fun | 4 => [(0, []), (1, []), (2, []), (3, []), (4, []), (5, []), (6, []), (7, []), (8, []), (9, []), (10, []), (11, []), (12, []), (13, []), (14, []), (15, []), (16, []), (17, []), (18, []), (19, []), (20, []), (21, []), (22, []), (23, []), (24, []), (25, []), (26, []), (27, []), (28, []), (29, []), (30, []), (31, []), (32, []), (33, []), (34, []), (35, []), (36, []), (37, [])] | 99999999 => [(0, [0, 1, 2, 3, 8, 48])] | _ => []) [2] mixed Tryz.func12 rfl rfl rfl rfl (by decide +kernel) (by simp) ?_
  have el : (t.l.map lnD).length = t.l.length := by simp
  simp only [Tbl.cells]
  simp only [go_sem, reduceIte, Nat.reduceEqDiff, Nat.reduceAdd, Nat.reduceSub, Nat.reduceMul, Nat.reduceLT, Nat.reduceLeDiff, Nat.reducePow, Int.reduceToNat, Int.reduceLT, Int.reduceLE, Int.reduceEq, Int.reduceNe, Int.reduceAdd, Int.reduceSub, Int.reduceMul, Int.reduceNeg]
  intro b1
  generalize hβ : Heap.set Heap.nil b1 _ = β0
  have e1 := hit_set hβ
  clear hβ
  refine vwq_loop (fun v => ∃ (j : Nat), j ≤ t.l.length ∧ v.σ 1 = .pb b1 0 ∧ v.σ 3 = .int .i64 j ∧ v.β b1 = some t.cells ∧ v.ω = []) (fun v => t.l.length - (ival (v.σ 3)).toNat) ⟨0, by omega, rfl, rfl, e1, rfl⟩ ?_
  clear e1
  rintro σ β ω ⟨j, hj, q1, q3, e1, rfl⟩
  dsimp only [Tbl.cells] at q1 q3 e1
  try simp only [go_sem, reduceIte, Nat.reduceEqDiff, Nat.reduceAdd, Nat.reduceSub, Nat.reduceMul, Nat.reduceLT, Nat.reduceLeDiff, Nat.reducePow, Int.reduceToNat, Int.reduceLT, Int.reduceLE, Int.reduceEq, Int.reduceNe, Int.reduceAdd, Int.reduceSub, Int.reduceMul, Int.reduceNeg, q1, q3, e1, el]
  refine cd_dec (fun k => ?_) (fun k => ?_)
  · have k' := eq_true k
    obtain ⟨x, hx, ex⟩ := Ln_at (l := t.l) (j := j) (by omega)
    have hn := ht.num x (List.mem_of_getElem? hx)
    have c1 : ((0 : Int) ≤ j) = True := eq_true (by omega)
    have wj := wrap_i64 (x := (j : Int) + 1) (by omega) (by omega)
    have n1 : (x.1 < 0) = False := eq_false (by omega)
    have n2 : (t.next ≤ x.1) = False := eq_false (by omega)
    by_cases h0 : 0 < j
    · obtain ⟨y, hy, ey⟩ := Ln_at (l := t.l) (j := j - 1) (by omega)
      have wm := wrap_i64 (x := (j : Int) - 1) (by omega) (by omega)
      have ej : (j : Int) - 1 = ((j - 1 : Nat) : Int) := by omega
      have hlt : y.1 < x.1 := by
        obtain ⟨y1, y2⟩ := List.getElem?_eq_some_iff.1 hy
        obtain ⟨x1, x2⟩ := List.getElem?_eq_some_iff.1 hx
        have := List.pairwise_iff_getElem.1 ht.asc (j - 1) j y1 x1 (by omega)
        rw [y2, x2] at this
        exact this
      have n3 : (x.1 ≤ y.1) = False := eq_false (by omega)
      have h0' : ((0 : Int) < j) = True := eq_true (by omega)
      rw [ej] at wm
      have c2 : ((0 : Int) ≤ ((j - 1 : Nat) : Int)) = True := eq_true (by omega)
      have k2 : (((j - 1 : Nat) : Int) < t.l.length) = True := eq_true (by omega)
      try simp only [go_sem, reduceIte, Nat.reduceEqDiff, Nat.reduceAdd, Nat.reduceSub, Nat.reduceMul, Nat.reduceLT, Nat.reduceLeDiff, Nat.reducePow, Int.reduceToNat, Int.reduceLT, Int.reduceLE, Int.reduceEq, Int.reduceNe, Int.reduceAdd, Int.reduceSub, Int.reduceMul, Int.reduceNeg, q1, q3, e1, el, ex, c1, k', wj, n1, n2, h0', ej, wm, ey, c2, k2, n3]
      exact ⟨⟨j + 1, by omega, rfl, rfl⟩, by omega⟩
    · have h0' : ((0 : Int) < j) = False := eq_false (by omega)
      try simp only [go_sem, reduceIte, Nat.reduceEqDiff, Nat.reduceAdd, Nat.reduceSub, Nat.reduceMul, Nat.reduceLT, Nat.reduceLeDiff, Nat.reducePow, Int.reduceToNat, Int.reduceLT, Int.reduceLE, Int.reduceEq, Int.reduceNe, Int.reduceAdd, Int.reduceSub, Int.reduceMul, Int.reduceNeg, q1, q3, e1, el, ex, c1, k', wj, n1, n2, h0']
      exact ⟨⟨j + 1, by omega, rfl, rfl⟩, by omega⟩
  · have n1 : (0 ≤ t.next) = True := eq_true ht.next.1
    have n2 : (t.next ≤ 4611686018427387904) = True := eq_true ht.next.2
    have n3 : ((t.l.length : Int) ≤ 4096) = True := eq_true (by omega)
    try simp only [go_sem, reduceIte, Nat.reduceEqDiff, Nat.reduceAdd, Nat.reduceSub, Nat.reduceMul, Nat.reduceLT, Nat.reduceLeDiff, Nat.reducePow, Int.reduceToNat, Int.reduceLT, Int.reduceLE, Int.reduceEq, Int.reduceNe, Int.reduceAdd, Int.reduceSub, Int.reduceMul, Int.reduceNeg, q1, q3, e1, el, n1, n2, n3, decide_true]
    exact finK_drop ⟨rfl, rfl, rfl⟩
abbrev Ev := Int × Ln
def evD (e : Ev) : D := .agg [.int .i64 e.1, .int .i64 e.2.1, .sl .none (e.2.2.map clD)]
def touchF (g : Pg) (t : Tbl) : List Ev := (t.l.filter fun l => matchF g.2.1 l.2).map (fun l => (2, l)) ++ (addL t.next g.2.2.1).map fun l => (1, l)
theorem Ev_cells3 (l : List Ev) : ∀ x ∈ l.map evD, x.cells.length = 3 := fun x hx => by
  obtain ⟨y, _, rfl⟩ := List.mem_map.1 hx; rfl
set_option maxHeartbeats 4000000 in
theorem Touched_ok (g : Pg) (t : Tbl) (hn : I64 t.next) (hn2 : t.next ≤ 4611686018427387904) (ht : t.l.length ≤ 1048576) (ha : g.2.2.1.length ≤ 1048576) : VN P G 22 [.agg g.cells, .agg t.cells] (.sl .none ((touchF g t).map evD)) := by
  unfold VN
  refine VC.ofs (fun | 99999999 => [(0, [0, 1, 2, 3, 4, 5, 7, 8, 9, 11, 12, 13, 14, 21, 29, 30, 31, 32])] | _ => []) [4] mixed Tryz.func22 rfl rfl rfl rfl (by decide +kernel) (by simp) ?_
  have el : (t.l.map lnD).length = t.l.length := by simp
  have ea : (g.2.2.1.map rwD).length = g.2.2.1.length := by simp
  simp only [Tbl.cells, Pg.cells16, Pg.c16]
  simp only [go_sem, reduceIte, Nat.reduceEqDiff, Nat.reduceAdd, Nat.reduceSub, Nat.reduceMul, Nat.reduceLT, Nat.reduceLeDiff, Nat.reducePow, Int.reduceToNat, Int.reduceLT, Int.reduceLE, Int.reduceEq, Int.reduceNe, Int.reduceAdd, Int.reduceSub, Int.reduceMul, Int.reduceNeg]
  refine fun b2 => new_1 fun b3 q1 q2 => ?_
  have N := And.intro q1 q2
  try simp only [go_sem, reduceIte, Nat.reduceEqDiff, Nat.reduceAdd, Nat.reduceSub, Nat.reduceMul, Nat.reduceLT, Nat.reduceLeDiff, Nat.reducePow, Int.reduceToNat, Int.reduceLT, Int.reduceLE, Int.reduceEq, Int.reduceNe, Int.reduceAdd, Int.reduceSub, Int.reduceMul, Int.reduceNeg, q1, q2, el]
  refine vwq_loop (fun v => ∃ (j : Nat) (tk : Tk), j ≤ t.l.length ∧ v.σ 2 = .pb b2 0 ∧ v.σ 3 = .pb b3 0 ∧ v.σ 5 = .sl tk (((t.l.take j).filter fun l => matchF g.2.1 l.2).map fun l => evD (2, l)) ∧ v.σ 11 = .sl .none (t.l.map lnD) ∧ v.σ 12 = .int .i64 t.l.length ∧ v.σ 13 = .int .i64 j ∧ v.β b2 = some g.c16 ∧ v.β b3 = some t.cells ∧ TW 3 tk v.ω) (fun v => t.l.length - (ival (v.σ 13)).toNat) ⟨0, .full, by omega, rfl, rfl, rfl, rfl, rfl, rfl, by simp [Heap.set, q1, q2, Pg.c16], by simp [Heap.set, Tbl.cells], TW.full 3⟩ ?_
  clear q1 q2
  rintro σ β ω ⟨j, tk, hj, q2, q3, q5, q11, q12, q13, e2, e3, hw⟩
  dsimp only [Pg.c16, Tbl.cells] at q2 q3 q5 q11 q12 q13 e2 e3 hw
  have hto := hw.ok
  have htg := hw.gone
  obtain ⟨L, hL⟩ : ∃ L, ((t.l.take j).filter fun l => matchF g.2.1 l.2) = L := ⟨_, rfl⟩
  have hLl : L.length ≤ j := by rw [← hL]; exact Nat.le_trans (List.length_filter_le _ _) (by simp; omega)
  rw [hL, show (L.map fun l => evD (2, l)) = (L.map fun l => ((2, l) : Ev)).map evD by simp] at q5
  try simp only [go_sem, reduceIte, Nat.reduceEqDiff, Nat.reduceAdd, Nat.reduceSub, Nat.reduceMul, Nat.reduceLT, Nat.reduceLeDiff, Nat.reducePow, Int.reduceToNat, Int.reduceLT, Int.reduceLE, Int.reduceEq, Int.reduceNe, Int.reduceAdd, Int.reduceSub, Int.reduceMul, Int.reduceNeg, q2, q3, q5, q11, q12, q13, e2, e3]
  refine cd_dec (fun kj => ?_) (fun kj => ?_)
  · have k' := eq_true kj
    obtain ⟨x, hx, ex⟩ := Ln_at (l := t.l) (j := j) (by omega)
    have hm := pMatch_ok (G := G) x.2 g.2.1
    simp only [Pr.cells] at hm
    have c1 : ((0 : Int) ≤ j) = True := eq_true (by omega)
    have wj := wrap_i64 (x := (j : Int) + 1) (by omega) (by omega)
    have hs : ((t.l.take (j + 1)).filter fun l => matchF g.2.1 l.2) = L ++ (if matchF g.2.1 x.2 = true then [x] else []) := by
      rw [take_snoc' hx, List.filter_append, hL]
      by_cases h : matchF g.2.1 x.2 = true <;> simp [h]
    have N := trivial
    try simp only [go_sem, reduceIte, Nat.reduceEqDiff, Nat.reduceAdd, Nat.reduceSub, Nat.reduceMul, Nat.reduceLT, Nat.reduceLeDiff, Nat.reducePow, Int.reduceToNat, Int.reduceLT, Int.reduceLE, Int.reduceEq, Int.reduceNe, Int.reduceAdd, Int.reduceSub, Int.reduceMul, Int.reduceNeg, q2, q3, q5, q11, q12, q13, e2, e3, el, ex, c1, k', wj]
    refine new_any fun b7 hb7 => ?_
    have N := And.intro N (box_ne hb7 e2)
    have N := And.intro N (box_ne hb7 e3)
    generalize hβ_ : Heap.set _ b7 _ = β_
    have e7 := hit_set hβ_
    have e2 := keep_new hβ_ hb7 e2
    have e3 := keep_new hβ_ hb7 e3
    clear hβ_ hb7
    try simp only [go_sem, reduceIte, Nat.reduceEqDiff, Nat.reduceAdd, Nat.reduceSub, Nat.reduceMul, Nat.reduceLT, Nat.reduceLeDiff, Nat.reducePow, Int.reduceToNat, Int.reduceLT, Int.reduceLE, Int.reduceEq, Int.reduceNe, Int.reduceAdd, Int.reduceSub, Int.reduceMul, Int.reduceNeg, N, q2, q3, q5, q11, q12, q13, e2, e3, e7, el, ex, c1, k', wj]
    (first | refine cK_vn (hm) ?_ | refine cE_vn (hm) ?_)
    cases hmx : matchF g.2.1 x.2
    · rw [hmx] at hs
      try simp only [go_sem, reduceIte, Nat.reduceEqDiff, Nat.reduceAdd, Nat.reduceSub, Nat.reduceMul, Nat.reduceLT, Nat.reduceLeDiff, Nat.reducePow, Int.reduceToNat, Int.reduceLT, Int.reduceLE, Int.reduceEq, Int.reduceNe, Int.reduceAdd, Int.reduceSub, Int.reduceMul, Int.reduceNeg, N, q2, q3, q5, q11, q12, q13, e2, e3, e7, el, ex, c1, k', wj, hto, htg]
      refine ⟨⟨j + 1, tk, by omega, ?_, rfl, rfl, rfl, hw⟩, by omega⟩
      rw [hs]; simp
    · rw [hmx] at hs
      try simp only [go_sem, reduceIte, Nat.reduceEqDiff, Nat.reduceAdd, Nat.reduceSub, Nat.reduceMul, Nat.reduceLT, Nat.reduceLeDiff, Nat.reducePow, Int.reduceToNat, Int.reduceLT, Int.reduceLE, Int.reduceEq, Int.reduceNe, Int.reduceAdd, Int.reduceSub, Int.reduceMul, Int.reduceNeg, N, q2, q3, q5, q11, q12, q13, e2, e3, e7, el, ex, c1, k', wj, hto, htg]
      refine ⟨Ev_cells3 _, by rw [List.length_map, List.length_map]; omega, fun t' _ => ⟨⟨j + 1, .live t' 3, by omega, ?_, rfl, rfl, rfl, TW.live 3 t'⟩, by omega⟩⟩
      rw [hs]; simp [evD]
  · obtain rfl : j = t.l.length := by omega
    rw [List.take_length] at hL
    try simp only [go_sem, reduceIte, Nat.reduceEqDiff, Nat.reduceAdd, Nat.reduceSub, Nat.reduceMul, Nat.reduceLT, Nat.reduceLeDiff, Nat.reducePow, Int.reduceToNat, Int.reduceLT, Int.reduceLE, Int.reduceEq, Int.reduceNe, Int.reduceAdd, Int.reduceSub, Int.reduceMul, Int.reduceNeg, q2, q3, q5, q11, q12, q13, e2, e3, ea]
    clear hj kj q11 q12 q13
    refine vwq_loop (fun v => ∃ (j : Nat) (tk : Tk), j ≤ g.2.2.1.length ∧ v.σ 3 = .pb b3 0 ∧ v.σ 5 = .sl tk (((L.map fun l => ((2, l) : Ev)) ++ (addL t.next (g.2.2.1.take j)).map fun l => ((1, l) : Ev)).map evD) ∧ v.σ 29 = .sl .none (g.2.2.1.map rwD) ∧ v.σ 30 = .int .i64 g.2.2.1.length ∧ v.σ 31 = .int .i64 j ∧ v.β b3 = some t.cells ∧ TW 3 tk v.ω) (fun v => g.2.2.1.length - (ival (v.σ 31)).toNat) ⟨0, tk, by omega, rfl, by simp [addL]; rfl, rfl, rfl, rfl, e3, hw⟩ ?_
    clear e2 e3 q2 q3 q5 hw hto htg
    rintro σ β ω ⟨j, tk, hj, q3, q5, q29, q30, q31, e3, hw⟩
    dsimp only [Tbl.cells] at q3 q5 q29 q30 q31 e3 hw
    have hto := hw.ok
    have htg := hw.gone
    try simp only [go_sem, reduceIte, Nat.reduceEqDiff, Nat.reduceAdd, Nat.reduceSub, Nat.reduceMul, Nat.reduceLT, Nat.reduceLeDiff, Nat.reducePow, Int.reduceToNat, Int.reduceLT, Int.reduceLE, Int.reduceEq, Int.reduceNe, Int.reduceAdd, Int.reduceSub, Int.reduceMul, Int.reduceNeg, q3, q5, q29, q30, q31, e3]
    refine cd_dec (fun kj => ?_) (fun kj => ?_)
    · have k' := eq_true kj
      obtain ⟨x, hx, ex⟩ := Rw_at (l := g.2.2.1) (j := j) (by omega)
      have c1 : ((0 : Int) ≤ j) = True := eq_true (by omega)
      have wj := wrap_i64 (x := (j : Int) + 1) (by omega) (by omega)
      have wn := wrap_i64 (x := t.next + (j : Int)) (by omega) (by omega)
      have hs : addL t.next (g.2.2.1.take (j + 1)) = addL t.next (g.2.2.1.take j) ++ [(t.next + j, x)] := by
        rw [take_snoc' hx, addL_snoc, List.length_take, Nat.min_eq_left (by omega)]
      have hl1 : (addL t.next (g.2.2.1.take j)).length ≤ j := by rw [addL_len, List.length_take]; omega
      have N := trivial
      try simp only [go_sem, reduceIte, Nat.reduceEqDiff, Nat.reduceAdd, Nat.reduceSub, Nat.reduceMul, Nat.reduceLT, Nat.reduceLeDiff, Nat.reducePow, Int.reduceToNat, Int.reduceLT, Int.reduceLE, Int.reduceEq, Int.reduceNe, Int.reduceAdd, Int.reduceSub, Int.reduceMul, Int.reduceNeg, q3, q5, q29, q30, q31, e3, ea, ex, c1, k', wj]
      refine new_any fun b9 hb9 => ?_
      have N := And.intro N (box_ne hb9 e3)
      try simp only [go_sem, reduceIte, Nat.reduceEqDiff, Nat.reduceAdd, Nat.reduceSub, Nat.reduceMul, Nat.reduceLT, Nat.reduceLeDiff, Nat.reducePow, Int.reduceToNat, Int.reduceLT, Int.reduceLE, Int.reduceEq, Int.reduceNe, Int.reduceAdd, Int.reduceSub, Int.reduceMul, Int.reduceNeg, N, q3, q5, q29, q30, q31, e3, ea, ex, c1, k', wj, hto, htg, wn]
      refine ⟨Ev_cells3 _, by simp only [List.length_map, List.length_append]; omega, fun t' _ => ⟨⟨j + 1, .live t' 3, by omega, ?_, rfl, rfl, TW.live 3 t'⟩, by omega⟩⟩
      rw [hs]; simp [evD]
    · try simp only [go_sem, reduceIte, Nat.reduceEqDiff, Nat.reduceAdd, Nat.reduceSub, Nat.reduceMul, Nat.reduceLT, Nat.reduceLeDiff, Nat.reducePow, Int.reduceToNat, Int.reduceLT, Int.reduceLE, Int.reduceEq, Int.reduceNe, Int.reduceAdd, Int.reduceSub, Int.reduceMul, Int.reduceNeg, q3, q5, q29, q30, q31, e3]
      obtain rfl : j = g.2.2.1.length := by omega
      rw [List.take_length]
      refine finK_drop ⟨?_, rfl, rfl⟩
      rw [touchF, hL]
      rfl
end Go.Proofs.YtpblgfgcoamgmaaGreatS
namespace Go.Proofs.YtpblgfgcoamgmaaGreatS
open Go Go.Proofs.YtpblgfgcoamgmaaGreatV

def encCl (c : Cl) : List Nat := enc c.1.toNat ++ (enc (zig c.2.n) ++ (enc c.2.s.size ++ sb c.2.s))
def encRw (r : Rw) : List Nat := enc r.length ++ r.flatMap encCl
def encGu (g : Gu) : List Nat := encP g.1 ++ (enc g.2.1.toNat ++ (enc (zig g.2.2.1) ++ enc (zig g.2.2.2)))
def encPg (g : Pg) : List Nat := encP g.1 ++ (encP g.2.1 ++ (enc g.2.2.1.length ++ (g.2.2.1.flatMap encRw ++ (enc g.2.2.2.length ++ g.2.2.2.flatMap encGu))))
def RwE : Int → Rw → Prop
  | _, [] => True
  | last, c :: r => last < c.1 ∧ c.1 ≤ 1073741824 ∧ c.2.null = false ∧ I64' c.2.n ∧ c.2.s.size ≤ 200 ∧ RwE c.1 r
structure PrE (p : Pr) : Prop where
  well : wellF p = true
  pi : ∀ q ∈ subs p, PI q
structure GuE (g : Gu) : Prop where
  pr : PrE g.1
  id : 0 < g.2.1 ∧ g.2.1 ≤ 1073741824
  lo : I64' g.2.2.1
  hi : I64' g.2.2.2
structure PgE (g : Pg) : Prop where
  read : PrE g.1
  remove : PrE g.2.1
  nAdd : g.2.2.1.length ≤ 4096
  add : ∀ r ∈ g.2.2.1, r.length ≤ 64 ∧ RwE 0 r
  nGd : g.2.2.2.length ≤ 16
  gd : ∀ x ∈ g.2.2.2, GuE x

theorem gNum_rd {b : List Nat} {n lim i j : Nat} (hn : n ≤ lim) (hl : lim ≤ 1073741824) (h : Sp b i (enc n) j) : gNum b lim (at0 i) = (n, at0 j) := by
  unfold gNum; rw [nxU_rd (by omega) h]; dsimp only
  have e : failS (at0 j) 2 (decide (lim < n)) = at0 j := by rw [failS, if_neg (by simp; omega)]
  rw [e, if_pos rfl]
theorem gId_rd {b : List Nat} {least n : Int} {i j : Nat} (h0 : 0 ≤ least) (h1 : least < n) (h2 : n ≤ 1073741824) (h : Sp b i (enc n.toNat) j) : gId b least (at0 i) = (n.toNat, at0 j) := by
  unfold gId; rw [gNum_rd (by omega) (by omega) h]; dsimp only
  have e : failS (at0 j) 5 (decide ((n.toNat : Int) ≤ least)) = at0 j := by rw [failS, if_neg (by simp; omega)]
  rw [e]
theorem gPred_rd {b : List Nat} {p : Pr} {i j : Nat} (hp : PrE p) (h : Sp b i (encP p) j) : gPred b (at0 i) = (p, at0 j) := by
  unfold gPred; rw [if_pos rfl, pDec_enc hp.well hp.pi h]
theorem gCells_rd {b : List Nat} : ∀ {r acc : Rw} {last : Int} {i j : Nat}, 0 ≤ last → RwE last r → Sp b i (r.flatMap encCl) j → gCells b r.length acc last (at0 i) = (acc ++ r, at0 j)
  | [], acc, last, i, j, _, _, h => by
    have := h.len
    simp only [List.flatMap_nil, List.length_nil, Nat.add_zero] at this
    subst this; simp [gCells]
  | c :: r, acc, last, i, j, h0, hr, h => by
    obtain ⟨a1, a2, a3, a4, a5, a6⟩ := hr
    rw [List.flatMap_cons, encCl, List.append_assoc, List.append_assoc] at h
    obtain ⟨s1, h⟩ := h.split
    obtain ⟨s2, h⟩ := h.split
    obtain ⟨s3, h⟩ := h.split
    rw [List.length_cons, gCells, if_pos rfl, gId_rd h0 a1 a2 s1]; dsimp only
    rw [nxS_rd a4 s2]; dsimp only
    rw [txt_rd a5 s3]; dsimp only
    rw [show ((c.1.toNat : Nat) : Int) = c.1 by omega, gCells_rd (by omega) a6 h]
    obtain ⟨c1, ⟨cn, ci, cs⟩⟩ := c
    dsimp only at a3
    subst a3
    simp
theorem gRow_rd {b : List Nat} {r : Rw} {i j : Nat} (h1 : r.length ≤ 64) (h2 : RwE 0 r) (h : Sp b i (encRw r) j) : gRow b (at0 i) = (r, at0 j) := by
  obtain ⟨s1, h⟩ := h.split
  unfold gRow
  rw [gNum_rd h1 (by omega) s1]; dsimp only
  rw [gCells_rd (by omega) h2 h]; simp
theorem gList_rd {α : Type} {b : List Nat} {el : Sc → α × Sc} {e : α → List Nat} : ∀ {l acc : List α} {i j : Nat}, (∀ x ∈ l, ∀ i j, Sp b i (e x) j → el (at0 i) = (x, at0 j)) → Sp b i (l.flatMap e) j → gListF el l.length acc (at0 i) = (acc ++ l, at0 j)
  | [], acc, i, j, _, h => by
    have := h.len
    simp only [List.flatMap_nil, List.length_nil, Nat.add_zero] at this
    subst this; simp [gListF]
  | x :: l, acc, i, j, hx, h => by
    rw [List.flatMap_cons] at h
    obtain ⟨s1, h⟩ := h.split
    rw [List.length_cons, gListF, if_pos rfl, hx x (by simp) _ _ s1]; dsimp only
    rw [gList_rd (fun y hy => hx y (by simp [hy])) h]; simp
theorem gGd_rd {b : List Nat} {g : Gu} {i j : Nat} (hg : GuE g) (h : Sp b i (encGu g) j) : gGd b (at0 i) = (g, at0 j) := by
  obtain ⟨s1, h⟩ := h.split
  obtain ⟨s2, h⟩ := h.split
  obtain ⟨s3, h⟩ := h.split
  have hl := h.len
  unfold gGd
  rw [gPred_rd hg.pr s1]; dsimp only
  rw [gId_rd (by omega) hg.id.1 hg.id.2 s2]; dsimp only
  rw [nxS_rd hg.lo s3]; dsimp only
  rw [nxS_rd hg.hi h]; dsimp only
  have := hg.id.1
  rw [show ((g.2.1.toNat : Nat) : Int) = g.2.1 by omega]
theorem gDec_rd {b : List Nat} {g : Pg} {j : Nat} (hg : PgE g) (h : Sp b 0 (encPg g) j) : gDec b = if (j : Int) ≠ b.length then (Pg.nul, 5) else (g, 0) := by
  obtain ⟨s1, h⟩ := h.split
  obtain ⟨s2, h⟩ := h.split
  obtain ⟨s3, h⟩ := h.split
  obtain ⟨s4, h⟩ := h.split
  obtain ⟨s5, h⟩ := h.split
  unfold gDec
  have e0 : ((0, 0) : Sc) = at0 0 := rfl
  rw [e0, gPred_rd hg.read s1]; dsimp only
  rw [gPred_rd hg.remove s2]; dsimp only
  rw [gNum_rd hg.nAdd (by omega) s3]; dsimp only
  rw [gList_rd (e := encRw) (fun r hr i j h => gRow_rd (hg.add r hr).1 (hg.add r hr).2 h) s4]; dsimp only
  rw [gNum_rd hg.nGd (by omega) s5]; dsimp only
  rw [gList_rd (e := encGu) (fun r hr i j h => gGd_rd (hg.gd r hr) h) h]; dsimp only
  simp
theorem Sp_all (x y : List Nat) : Sp (x ++ y) 0 x x.length := ⟨by omega, by simp, by simp⟩
theorem pgDec_enc {g : Pg} (hg : PgE g) : pgDecF (encPg g) = (g, 0) := by
  have h := gDec_rd hg (b := encPg g) (by have := Sp_all (encPg g) []; rwa [List.append_nil] at this)
  rw [← gDec_eq, h, if_neg (by simp)]
theorem pgDec_more {g : Pg} (hg : PgE g) {x : List Nat} (hx : x ≠ []) : pgDecF (encPg g ++ x) = (Pg.nul, 5) := by
  rw [← gDec_eq, gDec_rd hg (Sp_all (encPg g) x), if_pos]
  have := List.length_pos_iff.2 hx
  simp only [List.length_append]; omega

theorem gNum_un {b : List Nat} (hb : Byt b) (lim : Nat) (s : Sc) : RdS b s (enc (gNum b lim s).1) (gNum b lim s).2 := fun e => by
  have h1 := nxU_un hb s
  have e0 : failS (nxU b s).2 2 (decide (lim < (nxU b s).1)) = (gNum b lim s).2 := by
    unfold gNum; dsimp only; split <;> rfl
  rw [← e0] at e ⊢
  obtain ⟨f1, f2, f3⟩ := failS_no (by omega) e
  have e1 : (gNum b lim s).1 = (nxU b s).1 := by
    unfold gNum; dsimp only; rw [f3, if_pos f1]
  rw [f3, e1]
  exact h1 f1
theorem gId_un {b : List Nat} (hb : Byt b) (least : Int) (s : Sc) : RdS b s (enc (gId b least s).1) (gId b least s).2 ∧ ((gId b least s).2.2 = 0 → least < (gId b least s).1 ∧ (gId b least s).1 ≤ 1073741824) := by
  have h1 := gNum_un hb 1073741824 s
  have h2 := gNum_le (b := b) (lim := 1073741824) (s := s)
  unfold gId
  generalize gNum b 1073741824 s = n at h1 h2 ⊢
  dsimp only
  refine ⟨fun e => ?_, fun e => ?_⟩
  · obtain ⟨f1, f2, f3⟩ := failS_no (by omega) e
    rw [f3]; exact h1 f1
  · obtain ⟨f1, f2, f3⟩ := failS_no (by omega) e
    simp only [decide_eq_false_iff_not] at f2
    exact ⟨by omega, h2⟩
theorem gPred_un {b : List Nat} (hb : Byt b) (s : Sc) : RdS b s (encP (gPred b s).1) (gPred b s).2 ∧ ((gPred b s).2.2 = 0 → PrE (gPred b s).1) := by
  unfold gPred
  by_cases h : s.2 = 0
  rotate_left
  · rw [if_neg h]; exact ⟨RdS.bad h, fun e => absurd e h⟩
  rw [if_pos h]
  unfold pDecF
  by_cases hc : s.1 < 0 ∨ (b.length : Int) < s.1
  · rw [if_pos hc]; exact ⟨RdS.bad (by simp), fun e => absurd e (by simp)⟩
  rw [if_neg hc]
  obtain ⟨h1, h2⟩ := pred_un hb 8 (s.1, 0)
  dsimp only
  by_cases e : (predF b 8 (s.1, 0)).2.2 = 0
  · rw [if_pos e]
    obtain ⟨g1, g2⟩ := h2 e
    refine ⟨fun _ => ⟨h, fun a0 a1 => ?_⟩, fun _ => ⟨?_, fun q hq => (g1 q hq).2⟩⟩
    · exact (h1 e).2 a0 a1
    · simp only [wellF, Bool.and_eq_true, decide_eq_true_eq, List.all_eq_true]
      exact ⟨g2, fun q hq => (g1 q hq).1⟩
  · rw [if_neg e]; exact ⟨RdS.bad e, fun h' => absurd h' e⟩
theorem RdS.ok {b x : List Nat} {s t : Sc} (h : RdS b s x t) (e : t.2 = 0) : s.2 = 0 := (h e).1
theorem gCells_un {b : List Nat} (hb : Byt b) : ∀ (n : Nat) (l : Rw) (last : Int) (s : Sc), (gCells b n l last s).2.2 = 0 → ∃ r, (gCells b n l last s).1 = l ++ r ∧ r.length = n ∧ RwE last r ∧ RdS b s (r.flatMap encCl) (gCells b n l last s).2
  | 0, l, last, s, e => ⟨[], by simp [gCells], rfl, trivial, by simp only [gCells, List.flatMap_nil]; exact RdS.refl⟩
  | n + 1, l, last, s, e => by
    by_cases h : s.2 = 0
    rotate_left
    · rw [gCells, if_neg h] at e; exact absurd e h
    rw [gCells, if_pos h] at e ⊢
    obtain ⟨i1, i2⟩ := gId_un hb last s
    generalize gId b last s = i at i1 i2 e ⊢
    have x1 := nxS_un hb i.2
    have x2 := nxS_I hb i.2
    generalize nxS b i.2 = x at x1 x2 e ⊢
    obtain ⟨t1, t2⟩ := txt_un hb x.2
    generalize txtF b x.2 = t at t1 t2 e ⊢
    obtain ⟨r, r1, r2, r3, r4⟩ := gCells_un hb n _ _ _ e
    have et : t.2.2 = 0 := r4.ok e
    have ex := t1.ok et
    have ei := x1.ok ex
    obtain ⟨i3, i4⟩ := i2 ei
    refine ⟨((i.1 : Int), ⟨false, x.1, t.1⟩) :: r, ?_, by simp [r2], ⟨i3, by dsimp only; omega, rfl, x2, t2 et, r3⟩, ?_⟩
    · rw [r1]; simp
    · rw [List.flatMap_cons]
      unfold encCl
      dsimp only
      rw [Int.toNat_natCast]
      have := ((i1.trans (x1.trans t1)).trans r4)
      exact this
theorem gRow_un {b : List Nat} (hb : Byt b) (s : Sc) : RdS b s (encRw (gRow b s).1) (gRow b s).2 ∧ ((gRow b s).2.2 = 0 → (gRow b s).1.length ≤ 64 ∧ RwE 0 (gRow b s).1) := by
  have h1 := gNum_un hb 64 s
  have h2 := gNum_le (b := b) (lim := 64) (s := s)
  unfold gRow
  generalize gNum b 64 s = n at h1 h2 ⊢
  by_cases e : (gCells b n.1 [] 0 n.2).2.2 = 0
  rotate_left
  · exact ⟨RdS.bad e, fun h => absurd h e⟩
  obtain ⟨r, r1, r2, r3, r4⟩ := gCells_un hb n.1 [] 0 n.2 e
  rw [List.nil_append] at r1
  rw [r1]
  refine ⟨?_, fun _ => ⟨by omega, r3⟩⟩
  unfold encRw
  rw [r2]
  exact h1.trans r4
theorem gList_un {α : Type} {b : List Nat} {el : Sc → α × Sc} {e : α → List Nat} {good : α → Prop} (hel : ∀ s, RdS b s (e (el s).1) (el s).2 ∧ ((el s).2.2 = 0 → good (el s).1)) : ∀ (n : Nat) (l : List α) (s : Sc), (gListF el n l s).2.2 = 0 → ∃ r, (gListF el n l s).1 = l ++ r ∧ r.length = n ∧ (∀ x ∈ r, good x) ∧ RdS b s (r.flatMap e) (gListF el n l s).2
  | 0, l, s, _ => ⟨[], by simp [gListF], rfl, by simp, by simp only [gListF, List.flatMap_nil]; exact RdS.refl⟩
  | n + 1, l, s, h' => by
    by_cases h : s.2 = 0
    rotate_left
    · rw [gListF, if_neg h] at h'; exact absurd h' h
    rw [gListF, if_pos h] at h' ⊢
    obtain ⟨i1, i2⟩ := hel s
    generalize el s = i at i1 i2 h' ⊢
    obtain ⟨r, r1, r2, r3, r4⟩ := gList_un hel n _ _ h'
    refine ⟨i.1 :: r, by rw [r1]; simp, by simp [r2], fun x hx => ?_, ?_⟩
    · rcases List.mem_cons.1 hx with rfl | hx
      · exact i2 (r4.ok h')
      · exact r3 x hx
    · rw [List.flatMap_cons]; exact i1.trans r4
theorem gGd_un {b : List Nat} (hb : Byt b) (s : Sc) : RdS b s (encGu (gGd b s).1) (gGd b s).2 ∧ ((gGd b s).2.2 = 0 → GuE (gGd b s).1) := by
  obtain ⟨p1, p2⟩ := gPred_un hb s
  unfold gGd
  generalize gPred b s = p at p1 p2 ⊢
  obtain ⟨i1, i2⟩ := gId_un hb 0 p.2
  generalize gId b 0 p.2 = i at i1 i2 ⊢
  have x1 := nxS_un hb i.2
  have x2 := nxS_I hb i.2
  generalize nxS b i.2 = x at x1 x2 ⊢
  have y1 := nxS_un hb x.2
  have y2 := nxS_I hb x.2
  generalize nxS b x.2 = y at y1 y2 ⊢
  refine ⟨?_, fun e => ?_⟩
  · unfold encGu; dsimp only; rw [Int.toNat_natCast]; exact p1.trans (i1.trans (x1.trans y1))
  · have ex := y1.ok e
    have ei := x1.ok ex
    have ep := i1.ok ei
    obtain ⟨i3, i4⟩ := i2 ei
    exact ⟨p2 ep, ⟨i3, by dsimp only; omega⟩, x2, y2⟩
theorem pgDec_un {b : List Nat} (hb : Byt b) {g : Pg} (h : pgDecF b = (g, 0)) : encPg g = b ∧ PgE g := by
  rw [← gDec_eq] at h
  unfold gDec at h
  obtain ⟨p1, p2⟩ := gPred_un hb (0, 0)
  generalize gPred b (0, 0) = p at p1 p2 h
  dsimp only at h
  obtain ⟨m1, m2⟩ := gPred_un hb p.2
  generalize gPred b p.2 = m at m1 m2 h
  have n1 := gNum_un hb 4096 m.2
  have n2 := gNum_le (b := b) (lim := 4096) (s := m.2)
  generalize gNum b 4096 m.2 = n at n1 n2 h
  have l1 := gList_un (b := b) (el := gRow b) (e := encRw) (good := fun r => r.length ≤ 64 ∧ RwE 0 r) (gRow_un hb) n.1 [] n.2
  generalize gListF (gRow b) n.1 [] n.2 = l at l1 h
  have k1 := gNum_un hb 16 l.2
  have k2 := gNum_le (b := b) (lim := 16) (s := l.2)
  generalize gNum b 16 l.2 = k at k1 k2 h
  have g1 := gList_un (b := b) (el := gGd b) (e := encGu) (good := GuE) (gGd_un hb) k.1 [] k.2
  generalize gListF (gGd b) k.1 [] k.2 = q at g1 h
  by_cases e : q.2.2 = 0
  rotate_left
  · rw [if_pos e] at h; exact absurd (congrArg Prod.snd h) e
  rw [if_neg (fun h => h e)] at h
  by_cases e2 : q.2.1 = b.length
  rotate_left
  · rw [if_pos e2] at h; exact absurd (congrArg Prod.snd h) (by simp)
  rw [if_neg (fun h => h e2)] at h
  obtain ⟨gs, q1, q2, q3, q4⟩ := g1 e
  have ek := q4.ok e
  have el := k1.ok ek
  obtain ⟨rs, r1, r2, r3, r4⟩ := l1 el
  have en := r4.ok el
  have em := n1.ok en
  have ep := m1.ok em
  rw [q1, r1, List.nil_append, List.nil_append] at h
  have hg : g = (p.1, m.1, rs, gs) := (congrArg Prod.fst h).symm
  subst hg
  refine ⟨?_, p2 ep, m2 em, by dsimp only; omega, r3, by dsimp only; omega, q3⟩
  obtain ⟨z1, z2⟩ := (p1.trans (m1.trans (n1.trans (r4.trans (k1.trans q4))))) e
  obtain ⟨z3, z4⟩ := z2 (by simp) (by simp)
  rw [e2, Int.toNat_natCast] at z4
  unfold encPg
  dsimp only
  rw [r2, q2]
  simpa using z4.2.2
end Go.Proofs.YtpblgfgcoamgmaaGreatS
namespace Go.Proofs.YtpblgfgcoamgmaaGreatV
open Go

section
variable {P : Program} {G : Heap} {K : Kn} {β : Heap} {ω : List Nat} {w : World}

theorem Turn.freezeTup {b len cap m : Nat} {cs xs pre post : List D} (hb : β b = some cs) (ho : isObj cs = false) (hc : len ≤ cap) (hl : cap * m ≤ cs.length) (hf : flat xs = cs.take (len * m)) (hm : ∀ x ∈ xs, x.cells.length = m) (hn : xs.length = len) (hmost : len ≤ mostLen) :
    Turn G (.tup (pre ++ .so b 0 len cap :: post)) β ω (fun d' β' ω' => ∃ t, t ∉ ω ∧ d' = .tup (pre ++ .sl (.live t m) xs :: post) ∧ β' = β.unset b ∧ ω' = t :: ω) := fun K w v hr hd => by
  obtain ⟨t, ht1, ht2⟩ := hr.fresh
  obtain ⟨r1, r2⟩ := hr.freeze hb ho hc hl ht1 ht2
  refine ⟨_, _, _, _, ⟨t, ht2, rfl, rfl, rfl⟩, r1, r2, ?_⟩
  cases hd with
  | tup h =>
    obtain ⟨v1, v2, rfl, h1, h2⟩ := RepL.split h
    cases h2 with
    | cons hx h2 =>
      cases hx
      refine .tup (RepL.append (h1.mono r2.le) (.cons ?_ (h2.mono r2.le)))
      refine .sl hn hc hmost (fun i x hi => ?_) ⟨rfl, some ⟨b, 0, len, cap, m⟩, by simp [Kn.row], ⟨b, 0, none⟩, rfl, rfl, rfl⟩
      refine ⟨_, rfl, rfl, hm x (List.mem_of_getElem? hi), fun j y hj => ?_⟩
      have := flat_of hf hm hi hj
      simpa [Kn.row] using this
end
end Go.Proofs.YtpblgfgcoamgmaaGreatV
namespace Go.Proofs.YtpblgfgcoamgmaaGreatS
open Go Go.Proofs.YtpblgfgcoamgmaaGreatV

variable {G : Heap}
attribute [local irreducible] VN VC VX VQ VY VW VTA VT0 VPP VP

section
variable {α : Type}
def doneG (z : α) (q : List α) (j : Nat) : List α := q.take j ++ List.replicate (q.length - j) z
theorem doneG_len (z : α) (q : List α) {j : Nat} (h : j ≤ q.length) : (doneG z q j).length = q.length := by simp [doneG]; omega
theorem doneG_set {z : α} {q : List α} {j : Nat} {x : α} (h : q[j]? = some x) : (doneG z q j).set j x = doneG z q (j + 1) := by
  have hj := (List.getElem?_eq_some_iff.1 h).1
  obtain ⟨n, hn⟩ : ∃ n, q.length - j = n + 1 := ⟨q.length - j - 1, by omega⟩
  have h1 : (q.take j).length = j := by rw [List.length_take]; omega
  rw [doneG, doneG, take_snoc' h, hn, List.replicate_succ, List.set_append_right _ _ (by omega), h1, Nat.sub_self, List.set_cons_zero, List.append_assoc, List.singleton_append, show q.length - (j + 1) = n by omega]
theorem doneG_full (z : α) (q : List α) : doneG z q q.length = q := by simp [doneG]
end
theorem isObj_iD (l : List Int) : isObj (l.map iD) = false := by
  cases l <;> rfl
theorem zeros_iD : ∀ n : Nat, zeros [.int .i64 0] n = (List.replicate n 0).map iD
  | 0 => rfl
  | n + 1 => by
    have := zeros_iD n
    simp only [zeros, List.replicate_succ, List.flatten_cons, List.map_cons] at this ⊢
    rw [this]; rfl
theorem flat_iD : ∀ l : List Int, flat (l.map iD) = l.map iD
  | [] => rfl
  | a :: l => by
    have := flat_iD l
    simp only [flat, List.map_cons, List.flatMap_cons] at this ⊢
    rw [this]; rfl
theorem done_cut {q : List Int} {j : Nat} {x : Int} (h : q[j]? = some x) : List.take (0 + j * 1) ((doneG 0 q j).map iD) ++ [D.int .i64 x] ++ List.drop (0 + j * 1 + 1) ((doneG 0 q j).map iD) = (doneG 0 q (j + 1)).map iD := by
  have hj := (List.getElem?_eq_some_iff.1 h).1
  rw [← doneG_set h, List.set_eq_take_append_cons_drop, if_pos (by rw [doneG_len _ _ (by omega)]; exact hj)]
  simp [List.map_take, List.map_drop, iD]
def pgD (g : Pg) : D := .agg g.c16
theorem Pg_at {l : List Pg} {j : Nat} (h : j < l.length) : ∃ r, l[j]? = some r ∧ (l.map pgD).getD j .any = .agg [.int .i64 r.1.op, .int .i64 r.1.id, .int .i64 r.1.lo, .int .i64 r.1.hi, .sl .none (r.1.set.map Vl.d), .str r.1.text, .sl .none (r.1.kids.map Pr.d), .int .i64 r.2.1.op, .int .i64 r.2.1.id, .int .i64 r.2.1.lo, .int .i64 r.2.1.hi, .sl .none (r.2.1.set.map Vl.d), .str r.2.1.text, .sl .none (r.2.1.kids.map Pr.d), .sl .none (r.2.2.1.map rwD), .sl .none (r.2.2.2.map guD)] := at_map h
def stepT (t : Tbl) (g : Pg) : Tbl := if (runF g t).2 = 0 then (runF g t).1 else t
def replayT (t : Tbl) (l : List Pg) : Tbl := l.foldl stepT t
def replayE (t : Tbl) : List Pg → List Int
  | [] => []
  | g :: l => (runF g t).2 :: replayE (stepT t g) l
theorem replayE_len : ∀ (t : Tbl) (l : List Pg), (replayE t l).length = l.length
  | _, [] => rfl
  | t, g :: l => by simp [replayE, replayE_len]
theorem replayE_at : ∀ {t : Tbl} {l : List Pg} {j : Nat} {g : Pg}, l[j]? = some g → (replayE t l)[j]? = some (runF g (replayT t (l.take j))).2
  | t, [], j, g, h => by simp at h
  | t, a :: l, 0, g, h => by simp at h; subst h; simp [replayE, replayT]
  | t, a :: l, j + 1, g, h => by
    have := replayE_at (t := stepT t a) (l := l) (j := j) (g := g) (by simpa using h)
    simpa [replayE, replayT] using this
def TB (t : Tbl) : Prop := I64 t.next ∧ t.l.length ≤ 1048576
theorem runF_TB {g : Pg} {t : Tbl} (h : TB t) (h0 : (runF g t).2 = 0) : TB (runF g t).1 := by
  obtain ⟨⟨h1, h2⟩, h3⟩ := h
  unfold runF at h0 ⊢
  split
  · rename_i k; rw [if_pos k] at h0; exact absurd h0 k
  rename_i k; rw [if_neg k] at h0
  split
  · rename_i k2; rw [if_pos k2] at h0; exact absurd h0 (by decide)
  · rename_i k2
    refine ⟨⟨by dsimp only; omega, by dsimp only; omega⟩, ?_⟩
    simp only [List.length_append, addL_len]; omega
theorem stepT_TB {g : Pg} {t : Tbl} (h : TB t) : TB (stepT t g) := by
  unfold stepT
  split
  · rename_i k; exact runF_TB h k
  · exact h
theorem replayT_TB : ∀ {l : List Pg} {t : Tbl}, TB t → TB (replayT t l)
  | [], _, h => h
  | g :: l, t, h => replayT_TB (l := l) (stepT_TB h)
set_option maxHeartbeats 4000000 in
theorem Replay_ok (l : List Pg) (t : Tbl) (ht : TB t) (hl : l.length ≤ 1048576) : VN P G 20 [.sl .none (l.map pgD), .agg t.cells] (.tup [.agg (replayT t l).cells, .sl .none ((replayE t l).map iD)]) := by
  unfold VN
  have hql := replayE_len t l
  obtain ⟨q, hq⟩ : ∃ q, replayE t l = q := ⟨_, rfl⟩
  rw [hq] at hql
  rw [hq]
  refine VC.turn (Φ1 := fun o β ω => ∃ b, o = .ret (.tup [.agg (replayT t l).cells, .so b 0 l.length l.length]) ∧ β b = some (q.map iD)) ?_ ?_ ?_
  · refine VC.ofc (fun | 99999999 => [(0, [0, 1, 3, 4, 5, 6, 7, 8, 9, 10, 14, 15, 16, 17, 32])] | _ => []) [.cell 4 33, .tmp 5] mixed Tryz.func20 rfl rfl rfl rfl (by decide +kernel) (by simp) ?_
    have el : (l.map pgD).length = l.length := by simp
    simp only [go_sem, reduceIte, Nat.reduceEqDiff, Nat.reduceAdd, Nat.reduceSub, Nat.reduceMul, Nat.reduceLT, Nat.reduceLeDiff, Nat.reducePow, Int.reduceToNat, Int.reduceLT, Int.reduceLE, Int.reduceEq, Int.reduceNe, Int.reduceAdd, Int.reduceSub, Int.reduceMul, Int.reduceNeg, el]
    intro b3
    generalize hβ : Heap.set Heap.nil b3 _ = β0
    have e3 := hit_set hβ
    clear hβ
    have N := trivial
    refine new_any fun b4 hb4 => ?_
    have N := And.intro N (box_ne hb4 e3)
    generalize hβ_ : Heap.set _ b4 _ = β_
    have e4 := hit_set hβ_
    have e3 := keep_new hβ_ hb4 e3
    clear hβ_ hb4
    refine ⟨by omega, by omega, by omega, by omega, ?_⟩
    refine new_any fun b6 hb6 => ?_
    have N := And.intro N (box_ne hb6 e3)
    have N := And.intro N (box_ne hb6 e4)
    rw [zeros_iD]
    generalize hβ_ : Heap.set _ b6 _ = β_
    have e6 := hit_set hβ_
    have e3 := keep_new hβ_ hb6 e3
    have e4 := keep_new hβ_ hb6 e4
    clear hβ_ hb6
    have e6 : β_ b6 = some ((doneG 0 q 0).map iD) := by rw [e6]; simp [doneG, hql]
    refine vwq_loop (fun v => ∃ (j : Nat), j ≤ l.length ∧ v.σ 3 = .pb b3 0 ∧ v.σ 4 = .pb b4 0 ∧ v.σ 6 = .so b6 0 l.length l.length ∧ v.σ 14 = .sl .none (l.map pgD) ∧ v.σ 15 = .int .i64 l.length ∧ v.σ 16 = .int .i64 j ∧ v.β b3 = some (replayT t (l.take j)).cells ∧ v.β b4 = some [.int .i64 0, .sl .full []] ∧ v.β b6 = some ((doneG 0 q j).map iD) ∧ v.ω = []) (fun v => l.length - (ival (v.σ 16)).toNat) ⟨0, by omega, rfl, rfl, rfl, rfl, rfl, rfl, e3, e4, e6, rfl⟩ ?_
    clear e3 e4 e6
    rintro σ β ω ⟨j, hj, q3, q4, q6, q14, q15, q16, e3, e4, e6, rfl⟩
    dsimp only at q3 q4 q6 q14 q15 q16 e3 e4 e6
    obtain ⟨u, hu⟩ : ∃ u, replayT t (l.take j) = u := ⟨_, rfl⟩
    have hub : TB u := by rw [← hu]; exact replayT_TB ht
    rw [hu] at e3
    dsimp only [Tbl.cells] at e3
    try simp only [go_sem, reduceIte, Nat.reduceEqDiff, Nat.reduceAdd, Nat.reduceSub, Nat.reduceMul, Nat.reduceLT, Nat.reduceLeDiff, Nat.reducePow, Int.reduceToNat, Int.reduceLT, Int.reduceLE, Int.reduceEq, Int.reduceNe, Int.reduceAdd, Int.reduceSub, Int.reduceMul, Int.reduceNeg, q3, q4, q6, q14, q15, q16, e3, e4, e6]
    refine cd_dec (fun k => ?_) (fun k => ?_)
    · have k' := eq_true k
      obtain ⟨x, hx, ex⟩ := Pg_at (l := l) (j := j) (by omega)
      have c1 : ((0 : Int) ≤ j) = True := eq_true (by omega)
      have wj := wrap_i64 (x := (j : Int) + 1) (by omega) (by omega)
      have hr := Run_ok (G := G) x u hub.1 hub.2
      have hqx : q[j]? = some (runF x u).2 := by rw [← hq, ← hu]; exact replayE_at hx
      have hs : replayT t (l.take (j + 1)) = stepT u x := by
        rw [take_snoc' hx, replayT, List.foldl_append]
        rw [replayT] at hu
        rw [hu]; rfl
      unfold stepT at hs
      generalize runF x u = r at hr hqx hs
      rw [Pg.cells16] at hr
      simp only [Tbl.cells, Pg.c16] at hr
      try simp only [go_sem, reduceIte, Nat.reduceEqDiff, Nat.reduceAdd, Nat.reduceSub, Nat.reduceMul, Nat.reduceLT, Nat.reduceLeDiff, Nat.reducePow, Int.reduceToNat, Int.reduceLT, Int.reduceLE, Int.reduceEq, Int.reduceNe, Int.reduceAdd, Int.reduceSub, Int.reduceMul, Int.reduceNeg, N, q3, q4, q6, q14, q15, q16, e3, e4, e6, ex, el, k', c1]
      refine new_any fun b8 hb8 => ?_
      have N := And.intro N (box_ne hb8 e3)
      have N := And.intro N (box_ne hb8 e4)
      have N := And.intro N (box_ne hb8 e6)
      generalize hβ_ : Heap.set _ b8 _ = β_
      have e8 := hit_set hβ_
      have e3 := keep_new hβ_ hb8 e3
      have e4 := keep_new hβ_ hb8 e4
      have e6 := keep_new hβ_ hb8 e6
      clear hβ_ hb8
      try simp only [go_sem, reduceIte, Nat.reduceEqDiff, Nat.reduceAdd, Nat.reduceSub, Nat.reduceMul, Nat.reduceLT, Nat.reduceLeDiff, Nat.reducePow, Int.reduceToNat, Int.reduceLT, Int.reduceLE, Int.reduceEq, Int.reduceNe, Int.reduceAdd, Int.reduceSub, Int.reduceMul, Int.reduceNeg, N, q3, q4, q6, q14, q15, q16, e3, e4, e6, e8, ex, el, k', c1]
      (first | refine cK_vn (hr) ?_ | refine cE_vn (hr) ?_)
      try simp only [go_sem, reduceIte, Nat.reduceEqDiff, Nat.reduceAdd, Nat.reduceSub, Nat.reduceMul, Nat.reduceLT, Nat.reduceLeDiff, Nat.reducePow, Int.reduceToNat, Int.reduceLT, Int.reduceLE, Int.reduceEq, Int.reduceNe, Int.reduceAdd, Int.reduceSub, Int.reduceMul, Int.reduceNeg, N, q3, q4, q6, q14, q15, q16, e3, e4, e6, e8, ex, el, k', c1]
      refine new_any fun b9 hb9 => ?_
      have N := And.intro N (box_ne hb9 e3)
      have N := And.intro N (box_ne hb9 e4)
      have N := And.intro N (box_ne hb9 e6)
      generalize hβ_ : Heap.set _ b9 _ = β_
      have e9 := hit_set hβ_
      have e3 := keep_new hβ_ hb9 e3
      have e4 := keep_new hβ_ hb9 e4
      have e6 := keep_new hβ_ hb9 e6
      clear hβ_ hb9
      try simp only [go_sem, reduceIte, Nat.reduceEqDiff, Nat.reduceAdd, Nat.reduceSub, Nat.reduceMul, Nat.reduceLT, Nat.reduceLeDiff, Nat.reducePow, Int.reduceToNat, Int.reduceLT, Int.reduceLE, Int.reduceEq, Int.reduceNe, Int.reduceAdd, Int.reduceSub, Int.reduceMul, Int.reduceNeg, N, q3, q4, q6, q14, q15, q16, e3, e4, e6, e9, ex, el, k', c1]
      have hjq : j < q.length := by omega
      refine ⟨isObj_iD _, by rw [List.length_map, doneG_len _ _ (by omega)]; omega, ?_⟩
      rw [done_cut hqx]
      generalize hβ_ : Heap.set _ b6 _ = β_
      have e3 := keep_ne hβ_ (by simp [N]) e3
      have e4 := keep_ne hβ_ (by simp [N]) e4
      have e9 := keep_ne hβ_ (by simp [N]) e9
      have e6 := hit_set hβ_
      clear hβ_
      refine cd_dec (fun k0 => ?_) (fun k0 => ?_)
      · rw [if_pos k0] at hs
        try simp only [go_sem, reduceIte, Nat.reduceEqDiff, Nat.reduceAdd, Nat.reduceSub, Nat.reduceMul, Nat.reduceLT, Nat.reduceLeDiff, Nat.reducePow, Int.reduceToNat, Int.reduceLT, Int.reduceLE, Int.reduceEq, Int.reduceNe, Int.reduceAdd, Int.reduceSub, Int.reduceMul, Int.reduceNeg, N, q3, q4, q6, q14, q15, q16, e3, e4, e6, e9, wj]
        exact ⟨⟨j + 1, by omega, rfl, by rw [hs]; rfl, rfl⟩, by omega⟩
      · rw [if_neg k0] at hs
        try simp only [go_sem, reduceIte, Nat.reduceEqDiff, Nat.reduceAdd, Nat.reduceSub, Nat.reduceMul, Nat.reduceLT, Nat.reduceLeDiff, Nat.reducePow, Int.reduceToNat, Int.reduceLT, Int.reduceLE, Int.reduceEq, Int.reduceNe, Int.reduceAdd, Int.reduceSub, Int.reduceMul, Int.reduceNeg, N, q3, q4, q6, q14, q15, q16, e3, e4, e6, e9, wj]
        exact ⟨⟨j + 1, by omega, rfl, by rw [hs]; rfl, rfl⟩, by omega⟩
    · obtain rfl : j = l.length := by omega
      rw [← hql, doneG_full] at e6
      rw [List.take_length] at hu
      try simp only [go_sem, reduceIte, Nat.reduceEqDiff, Nat.reduceAdd, Nat.reduceSub, Nat.reduceMul, Nat.reduceLT, Nat.reduceLeDiff, Nat.reducePow, Int.reduceToNat, Int.reduceLT, Int.reduceLE, Int.reduceEq, Int.reduceNe, Int.reduceAdd, Int.reduceSub, Int.reduceMul, Int.reduceNeg, N, q3, q4, q6, q14, q15, q16, e3, e4, e6]
      refine YtpblgfgcoamgmaaGreatV.finK_var (b := b6) (cs := q.map iD) (by simp [Heap.set, N, e6]) ⟨b6, ?_, by simp [Heap.set]⟩
      rw [hu]; rfl
  · rintro d β' ω' ⟨b, h1, hb⟩
    cases h1
    refine Turn.bind (Turn.freezeTup (m := 1) (xs := q.map iD) (pre := [.agg (replayT t l).cells]) (post := []) hb (isObj_iD _) (by omega) (by simp [hql]) ?_ ?_ (by simp [hql]) (by simp [mostLen]; omega)) ?_
    · rw [flat_iD, List.take_of_length_le (by simp [hql])]
    · intro x hx
      obtain ⟨y, _, rfl⟩ := List.mem_map.1 hx
      rfl
    · rintro d β ω ⟨t, ht, rfl, rfl, rfl⟩
      exact Turn.weak (finK_drop ⟨rfl, rfl, rfl⟩)
  · rintro d β' ω' ⟨b, h1, _⟩
    cases h1
end Go.Proofs.YtpblgfgcoamgmaaGreatS
namespace Go.Proofs.YtpblgfgcoamgmaaGreatS
open Go Go.Proofs.YtpblgfgcoamgmaaGreatV

variable {G : Heap}
attribute [local irreducible] VN VC VX VQ VTA

structure TMd (fs : List Fd) (n : Nat) (t : Tbl) : Prop where
  asc : t.l.Pairwise fun a b => a.1 < b.1
  num : ∀ l ∈ t.l, 0 ≤ l.1 ∧ l.1 < t.next
  next : 0 ≤ t.next ∧ t.next ≤ 2 * (t.l.length : Int)
  len : t.l.length ≤ n
  fit : ∀ l ∈ t.l, RwFit fs l.2
def isTb (fs : List Fd) (n : Nat) (d : D) : Prop := ∃ t : Tbl, d = .agg t.cells ∧ TMd fs n t
theorem isTb_any (fs : List Fd) (n : Nat) : ∃ d, isTb fs n d := ⟨_, ⟨0, []⟩, rfl, by simp, by simp, by simp, by simp, by simp⟩
theorem TMd.plus {fs : List Fd} {n : Nat} {t : Tbl} (h : TMd fs n t) (k : Int) (r : Rw) (hk : t.next ≤ k ∧ k ≤ t.next + 1) (hl : t.l.length < n) (hr : RwFit fs r) : TMd fs n ⟨k + 1, t.l ++ [(k, r)]⟩ := by
  have hn := h.next
  refine ⟨?_, fun l hl => ?_, ⟨by dsimp only; omega, by simp; omega⟩, by simp; omega, fun l hl => ?_⟩
  · dsimp only
    rw [List.pairwise_append]
    refine ⟨h.asc, List.pairwise_singleton _ _, fun a ha b hb => ?_⟩
    simp at hb; subst hb
    have := h.num a ha
    dsimp only; omega
  · rcases List.mem_append.1 hl with hl | hl
    · have := h.num l hl; dsimp only; omega
    · simp at hl; subst hl; dsimp only; omega
  · rcases List.mem_append.1 hl with hl | hl
    · exact h.fit l hl
    · simp at hl; subst hl; exact hr
set_option maxHeartbeats 4000000 in
theorem Table_ok (fs : List Fd) (nx : Int) (raw : List (List Vl)) (n : Nat) (z : fs.length ≤ 64) (hty : ∀ f ∈ fs, 1 ≤ f.type ∧ f.type ≤ 6) (zn : n ≤ 1048576) (hi : ∀ l ∈ raw, ∀ v ∈ l, I64 v.n) : VX P G 33 [.agg [.sl .none (fs.map fdD), .int .i64 nx], .sl .none (raw.map vsD), .int .i64 n] (isTb fs n) := by
  have hr := Rows_ok (G := G) fs nx raw n z hty zn hi
  unfold VX
  refine VC.ofc (fun | 8 => [(0, []), (1, []), (2, []), (3, []), (4, []), (5, []), (6, []), (7, []), (8, []), (9, []), (10, []), (11, []), (12, [])] | 99999999 => [(0, [0, 1, 2, 3, 6, 7, 8, 9, 18, 24])] | _ => []) [.cell 6 33] mixed Tryz.func33 rfl rfl rfl rfl (by decide +kernel) (by simp) ?_
  simp only [go_sem, reduceIte, Nat.reduceEqDiff, Nat.reduceAdd, Nat.reduceSub, Nat.reduceMul, Nat.reduceLT, Nat.reduceLeDiff, Nat.reducePow, Int.reduceToNat, Int.reduceLT, Int.reduceLE, Int.reduceEq, Int.reduceNe, Int.reduceAdd, Int.reduceSub, Int.reduceMul, Int.reduceNeg]
  intro b3
  generalize hβ : Heap.set Heap.nil b3 _ = β0
  have e3 := hit_set hβ
  clear hβ
  have N := trivial
  try simp only [go_sem, reduceIte, Nat.reduceEqDiff, Nat.reduceAdd, Nat.reduceSub, Nat.reduceMul, Nat.reduceLT, Nat.reduceLeDiff, Nat.reducePow, Int.reduceToNat, Int.reduceLT, Int.reduceLE, Int.reduceEq, Int.reduceNe, Int.reduceAdd, Int.reduceSub, Int.reduceMul, Int.reduceNeg, e3]
  refine new_any fun b6 hb6 => ?_
  have N := And.intro N (box_ne hb6 e3)
  generalize hβ_ : Heap.set _ b6 _ = β_
  have e6 := hit_set hβ_
  have e3 := keep_new hβ_ hb6 e3
  clear hβ_ hb6
  try simp only [go_sem, reduceIte, Nat.reduceEqDiff, Nat.reduceAdd, Nat.reduceSub, Nat.reduceMul, Nat.reduceLT, Nat.reduceLeDiff, Nat.reducePow, Int.reduceToNat, Int.reduceLT, Int.reduceLE, Int.reduceEq, Int.reduceNe, Int.reduceAdd, Int.reduceSub, Int.reduceMul, Int.reduceNeg, N, e3, e6]
  refine cK_vx hr ?_
  rintro _ ⟨L, rfl, hL, hF⟩
  have el : (L.map rwD).length = L.length := by simp
  try simp only [go_sem, reduceIte, Nat.reduceEqDiff, Nat.reduceAdd, Nat.reduceSub, Nat.reduceMul, Nat.reduceLT, Nat.reduceLeDiff, Nat.reducePow, Int.reduceToNat, Int.reduceLT, Int.reduceLE, Int.reduceEq, Int.reduceNe, Int.reduceAdd, Int.reduceSub, Int.reduceMul, Int.reduceNeg, N, e3, e6, el]
  refine new_any fun b8 hb8 => ?_
  have N := And.intro N (box_ne hb8 e3)
  have N := And.intro N (box_ne hb8 e6)
  generalize hβ_ : Heap.set _ b8 _ = β_
  have e8 := hit_set hβ_
  have e3 := keep_new hβ_ hb8 e3
  have e6 := keep_new hβ_ hb8 e6
  clear hβ_ hb8
  try simp only [go_sem, reduceIte, Nat.reduceEqDiff, Nat.reduceAdd, Nat.reduceSub, Nat.reduceMul, Nat.reduceLT, Nat.reduceLeDiff, Nat.reducePow, Int.reduceToNat, Int.reduceLT, Int.reduceLE, Int.reduceEq, Int.reduceNe, Int.reduceAdd, Int.reduceSub, Int.reduceMul, Int.reduceNeg, N, e3, e6, e8, el]
  refine vwq_loop (fun v => ∃ (j : Nat) (t : Tbl) (tk : Tk), j ≤ L.length ∧ t.l.length = j ∧ TMd fs n t ∧ TW 2 tk v.ω ∧ v.σ 3 = .pb b3 0 ∧ v.σ 6 = .pb b6 0 ∧ v.σ 7 = .sl .none (L.map rwD) ∧ v.σ 8 = .pb b8 0 ∧ v.σ 9 = .int .i64 j ∧ v.β b6 = some [.int .i64 0, .sl .full []] ∧ v.β b8 = some [.int .i64 t.next, .sl tk (t.l.map lnD)]) (fun v => L.length - (ival (v.σ 9)).toNat) ⟨0, ⟨0, []⟩, .full, by omega, rfl, ⟨by simp, by simp, by simp, by simp, by simp⟩, TW.full 2, rfl, rfl, rfl, rfl, rfl, e6, e8⟩ ?_
  clear e3 e6 e8
  rintro σ β ω ⟨j, t, tk, hj, ht, hm, hw, q3, q6, q7, q8, q9, e6, e8⟩
  dsimp only at hw q3 q6 q7 q8 q9 e6 e8
  have hto := hw.ok
  have htg := hw.gone
  have hn1 := hm.next
  try simp only [go_sem, reduceIte, Nat.reduceEqDiff, Nat.reduceAdd, Nat.reduceSub, Nat.reduceMul, Nat.reduceLT, Nat.reduceLeDiff, Nat.reducePow, Int.reduceToNat, Int.reduceLT, Int.reduceLE, Int.reduceEq, Int.reduceNe, Int.reduceAdd, Int.reduceSub, Int.reduceMul, Int.reduceNeg, q3, q6, q7, q8, q9, e6, e8, el]
  refine cd_dec (fun g => ?_) (fun g => ?_)
  · have g1 := eq_true g
    obtain ⟨x, hx, ex⟩ := Rw_at (l := L) (j := j) (by omega)
    have wj := wrap_i64 (x := (j : Int) + 1) (by omega) (by omega)
    have c1 : ((0 : Int) ≤ j) = True := eq_true (by omega)
    have wn := wrap_i64 (x := t.next + 1) (by omega) (by omega)
    have wn2 := wrap_i64 (x := t.next + 1 + 1) (by omega) (by omega)
    have hx' := hF x (List.mem_of_getElem? hx)
    try simp only [go_sem, reduceIte, Nat.reduceEqDiff, Nat.reduceAdd, Nat.reduceSub, Nat.reduceMul, Nat.reduceLT, Nat.reduceLeDiff, Nat.reducePow, Int.reduceToNat, Int.reduceLT, Int.reduceLE, Int.reduceEq, Int.reduceNe, Int.reduceAdd, Int.reduceSub, Int.reduceMul, Int.reduceNeg, q3, q6, q7, q8, q9, e6, e8, el, g1]
    refine cd_dec (fun k => ?_) (fun k => ?_)
    · have hp := hm.plus (t.next + 1) x (by omega) (by omega) hx'
      try simp only [go_sem, reduceIte, Nat.reduceEqDiff, Nat.reduceAdd, Nat.reduceSub, Nat.reduceMul, Nat.reduceLT, Nat.reduceLeDiff, Nat.reducePow, Int.reduceToNat, Int.reduceLT, Int.reduceLE, Int.reduceEq, Int.reduceNe, Int.reduceAdd, Int.reduceSub, Int.reduceMul, Int.reduceNeg, N, q3, q6, q7, q8, q9, e6, e8, el, g1, c1, ex, wn, wn2, hto, htg, wj]
      refine ⟨Ln_cells2 _, by rw [List.length_map]; omega, fun t' _ => ⟨⟨j + 1, _, .live t' 2, by omega, ?_, hp, TW.live 2 t', rfl, ?_⟩, by omega⟩⟩
      · simp [ht]
      · simp [lnD, Heap.set, N, e6]
    · have hp := hm.plus t.next x (by omega) (by omega) hx'
      try simp only [go_sem, reduceIte, Nat.reduceEqDiff, Nat.reduceAdd, Nat.reduceSub, Nat.reduceMul, Nat.reduceLT, Nat.reduceLeDiff, Nat.reducePow, Int.reduceToNat, Int.reduceLT, Int.reduceLE, Int.reduceEq, Int.reduceNe, Int.reduceAdd, Int.reduceSub, Int.reduceMul, Int.reduceNeg, N, q3, q6, q7, q8, q9, e6, e8, el, g1, c1, ex, wn, hto, htg, wj]
      refine ⟨Ln_cells2 _, by rw [List.length_map]; omega, fun t' _ => ⟨⟨j + 1, _, .live t' 2, by omega, ?_, hp, TW.live 2 t', rfl, ?_⟩, by omega⟩⟩
      · simp [ht]
      · simp [lnD, Heap.set, N, e6]
  · try simp only [go_sem, reduceIte, Nat.reduceEqDiff, Nat.reduceAdd, Nat.reduceSub, Nat.reduceMul, Nat.reduceLT, Nat.reduceLeDiff, Nat.reducePow, Int.reduceToNat, Int.reduceLT, Int.reduceLE, Int.reduceEq, Int.reduceNe, Int.reduceAdd, Int.reduceSub, Int.reduceMul, Int.reduceNeg, q3, q6, q7, q8, q9, e6, e8]
    exact finK_drop ⟨_, ⟨t, by simp [D.er, D.er1, Tbl.cells], hm⟩, rfl, rfl, rfl⟩
structure Raw where
  read : Pr
  remove : Pr
  add : List (List Vl)
  gs : List Gu
def Raw.cells (x : Raw) : List D := x.read.cells ++ x.remove.cells ++ [.sl .none (x.add.map vsD), .sl .none (x.gs.map guD)]
structure RawOk (x : Raw) : Prop where
  read : x.read.Lim ∧ x.read.I
  remove : x.remove.Lim ∧ x.remove.I
  add : ∀ l ∈ x.add, ∀ v ∈ l, I64 v.n
  gs : ∀ g ∈ x.gs, (g.1.Lim ∧ g.1.I) ∧ I64 g.2.1 ∧ I64 g.2.2.1 ∧ I64 g.2.2.2
structure GuMd (fs : List Fd) (g : Gu) : Prop where
  pr : Vq fs 1 g.1
  fd : ∃ f ∈ fs, f.id = g.2.1 ∧ f.type ≠ 4 ∧ f.type ≠ 6
  lo : I64 g.2.2.1
  hi : I64 g.2.2.2
structure PgMd (fs : List Fd) (g : Pg) : Prop where
  read : Vq fs 2 g.1
  remove : Vq fs 2 g.2.1
  nAdd : g.2.2.1.length ≤ 4
  add : ∀ r ∈ g.2.2.1, RwFit fs r
  nGd : g.2.2.2.length ≤ 3
  gd : ∀ x ∈ g.2.2.2, GuMd fs x
theorem PgMd.nul (fs : List Fd) : PgMd fs Pg.nul := ⟨.nul, .nul, by decide, by simp [Pg.nul], by decide, by simp [Pg.nul]⟩
def isPg (fs : List Fd) (d : D) : Prop := ∃ g : Pg, d = .agg g.cells ∧ PgMd fs g
theorem isPg_any (fs : List Fd) : ∃ d, isPg fs d := ⟨_, Pg.nul, rfl, .nul fs⟩
def idsF (fs : List Fd) : List Int := (fs.filter fun f => !decide (f.type = 4) && !decide (f.type = 6)).map (·.id)
theorem idsF_fd {fs : List Fd} {id : Int} (h : id ∈ idsF fs) : ∃ f ∈ fs, f.id = id ∧ f.type ≠ 4 ∧ f.type ≠ 6 := by
  obtain ⟨f, hf, rfl⟩ := List.mem_map.1 h
  obtain ⟨hm, h6⟩ := List.mem_filter.1 hf
  simp at h6
  exact ⟨f, hm, rfl, h6⟩
set_option maxRecDepth 100000 in
set_option maxHeartbeats 8000000 in
theorem Made27_ok (fs : List Fd) (nx : Int) (h : SOk fs nx) (x : Raw) (hx : RawOk x) : VX P G 70 [.agg [.sl .none (fs.map fdD), .int .i64 nx], .agg x.cells] (isPg fs) := by
  have h1 := Pred9_ok (G := G) fs nx h 2 (by omega) x.read hx.read.1 hx.read.2
  have h2 := Pred9_ok (G := G) fs nx h 2 (by omega) x.remove hx.remove.1 hx.remove.2
  have h3 := Rows_ok (G := G) fs nx x.add 4 h.len h.ty (by omega) hx.add
  have hz := h.len
  simp only [Pr.cells] at h1 h2
  simp only [Raw.cells, Pr.cells, List.cons_append, List.nil_append]
  unfold VX
  refine VC.ofc (fun | 1 => [(0, []), (1, []), (2, []), (4, [3]), (5, []), (6, [3]), (8, [3, 7]), (9, []), (10, [3, 7]), (3, [13]), (7, [13]), (11, [13]), (12, []), (13, []), (14, [])] | 99999999 => [(0, [0, 1, 2, 3, 4, 5, 6, 7, 8, 9, 28, 46, 69])] | _ => []) [.cell 4 44] mixed Tryz.func70 rfl rfl rfl rfl (by decide +kernel) (by simp) ?_
  have el : (fs.map fdD).length = fs.length := by simp
  have eg : (x.gs.map guD).length = x.gs.length := by simp
  simp only [go_sem, reduceIte, Nat.reduceEqDiff, Nat.reduceAdd, Nat.reduceSub, Nat.reduceMul, Nat.reduceLT, Nat.reduceLeDiff, Nat.reducePow, Int.reduceToNat, Int.reduceLT, Int.reduceLE, Int.reduceEq, Int.reduceNe, Int.reduceAdd, Int.reduceSub, Int.reduceMul, Int.reduceNeg]
  intro b2
  generalize hβ : Heap.set Heap.nil b2 _ = β0
  have e2 := hit_set hβ
  clear hβ
  have N := trivial
  try simp only [go_sem, reduceIte, Nat.reduceEqDiff, Nat.reduceAdd, Nat.reduceSub, Nat.reduceMul, Nat.reduceLT, Nat.reduceLeDiff, Nat.reducePow, Int.reduceToNat, Int.reduceLT, Int.reduceLE, Int.reduceEq, Int.reduceNe, Int.reduceAdd, Int.reduceSub, Int.reduceMul, Int.reduceNeg, e2]
  refine new_any fun b3 hb3 => ?_
  have N := And.intro N (box_ne hb3 e2)
  generalize hβ_ : Heap.set _ b3 _ = β_
  have e3 := hit_set hβ_
  have e2 := keep_new hβ_ hb3 e2
  clear hβ_ hb3
  try simp only [go_sem, reduceIte, Nat.reduceEqDiff, Nat.reduceAdd, Nat.reduceSub, Nat.reduceMul, Nat.reduceLT, Nat.reduceLeDiff, Nat.reducePow, Int.reduceToNat, Int.reduceLT, Int.reduceLE, Int.reduceEq, Int.reduceNe, Int.reduceAdd, Int.reduceSub, Int.reduceMul, Int.reduceNeg, N, e2, e3]
  refine new_any fun b4 hb4 => ?_
  have N := And.intro N (box_ne hb4 e2)
  have N := And.intro N (box_ne hb4 e3)
  generalize hβ_ : Heap.set _ b4 _ = β_
  have e4 := hit_set hβ_
  have e2 := keep_new hβ_ hb4 e2
  have e3 := keep_new hβ_ hb4 e3
  clear hβ_ hb4
  try simp only [go_sem, reduceIte, Nat.reduceEqDiff, Nat.reduceAdd, Nat.reduceSub, Nat.reduceMul, Nat.reduceLT, Nat.reduceLeDiff, Nat.reducePow, Int.reduceToNat, Int.reduceLT, Int.reduceLE, Int.reduceEq, Int.reduceNe, Int.reduceAdd, Int.reduceSub, Int.reduceMul, Int.reduceNeg, N, e2, e3, e4]
  refine cE_vx h1 (isVq_any fs 2) ?_
  rintro _ ⟨qr, rfl, vr⟩
  try simp only [go_sem, reduceIte, Nat.reduceEqDiff, Nat.reduceAdd, Nat.reduceSub, Nat.reduceMul, Nat.reduceLT, Nat.reduceLeDiff, Nat.reducePow, Int.reduceToNat, Int.reduceLT, Int.reduceLE, Int.reduceEq, Int.reduceNe, Int.reduceAdd, Int.reduceSub, Int.reduceMul, Int.reduceNeg, N, e2, e3, e4]
  refine cE_vx h2 (isVq_any fs 2) ?_
  rintro _ ⟨qm, rfl, vm⟩
  try simp only [go_sem, reduceIte, Nat.reduceEqDiff, Nat.reduceAdd, Nat.reduceSub, Nat.reduceMul, Nat.reduceLT, Nat.reduceLeDiff, Nat.reducePow, Int.reduceToNat, Int.reduceLT, Int.reduceLE, Int.reduceEq, Int.reduceNe, Int.reduceAdd, Int.reduceSub, Int.reduceMul, Int.reduceNeg, N, e2, e3, e4]
  refine cE_vx h3 ⟨_, [], rfl, by simp, by simp⟩ ?_
  rintro _ ⟨A, rfl, hA, hAf⟩
  simp only [Pr.cells]
  try simp only [go_sem, reduceIte, Nat.reduceEqDiff, Nat.reduceAdd, Nat.reduceSub, Nat.reduceMul, Nat.reduceLT, Nat.reduceLeDiff, Nat.reducePow, Int.reduceToNat, Int.reduceLT, Int.reduceLE, Int.reduceEq, Int.reduceNe, Int.reduceAdd, Int.reduceSub, Int.reduceMul, Int.reduceNeg, N, e2, e3, e4]
  refine new_any fun b5 hb5 => ?_
  have N := And.intro N (box_ne hb5 e2)
  have N := And.intro N (box_ne hb5 e3)
  have N := And.intro N (box_ne hb5 e4)
  generalize hβ_ : Heap.set _ b5 _ = β_
  have e5 := hit_set hβ_
  have e2 := keep_new hβ_ hb5 e2
  have e3 := keep_new hβ_ hb5 e3
  have e4 := keep_new hβ_ hb5 e4
  clear hβ_ hb5
  refine ⟨by simp [rdAdd, N], ?_⟩
  refine vwq_loop (fun v => ∃ (j : Nat) (tk : Tk), j ≤ fs.length ∧ TW 1 tk v.ω ∧ v.σ 2 = .pb b2 0 ∧ v.σ 3 = .pb b3 0 ∧ v.σ 4 = .pb b4 0 ∧ v.σ 5 = .pb b5 0 ∧ v.σ 6 = .sl tk ((idsF (fs.take j)).map iD) ∧ v.σ 7 = .int .i64 j ∧ v.β = β_) (fun v => fs.length - (ival (v.σ 7)).toNat) ⟨0, .full, by omega, TW.full 1, rfl, rfl, rfl, rfl, rfl, rfl, rfl⟩ ?_
  rintro σ β ω ⟨j, tk, hj, hw, q2, q3, q4, q5, q6, q7, rfl⟩
  dsimp only at hw q2 q3 q4 q5 q6 q7 e2 e3 e4 e5
  have hto := hw.ok
  have htg := hw.gone
  obtain ⟨L, hL⟩ : ∃ L, idsF (fs.take j) = L := ⟨_, rfl⟩
  have hLl : L.length ≤ j := by rw [← hL, idsF, List.length_map]; exact Nat.le_trans (List.length_filter_le _ _) (by simp; omega)
  rw [hL] at q6
  try simp only [go_sem, reduceIte, Nat.reduceEqDiff, Nat.reduceAdd, Nat.reduceSub, Nat.reduceMul, Nat.reduceLT, Nat.reduceLeDiff, Nat.reducePow, Int.reduceToNat, Int.reduceLT, Int.reduceLE, Int.reduceEq, Int.reduceNe, Int.reduceAdd, Int.reduceSub, Int.reduceMul, Int.reduceNeg, q2, q3, q4, q5, q6, q7, e2, e3, e4, e5, el]
  refine cd_dec (fun k => ?_) (fun k => ?_)
  · have k' := eq_true k
    obtain ⟨f, hf, ef⟩ := Fd_at (l := fs) (j := j) (by omega)
    have c1 : ((0 : Int) ≤ j) = True := eq_true (by omega)
    have wj := wrap_i64 (x := (j : Int) + 1) (by omega) (by omega)
    have hs : idsF (fs.take (j + 1)) = L ++ (if f.type ≠ 4 ∧ f.type ≠ 6 then [f.id] else []) := by
      rw [take_snoc' hf, idsF, List.filter_append, List.map_append]
      rw [idsF] at hL
      rw [hL]
      by_cases h4 : f.type = 4 <;> by_cases h6 : f.type = 6 <;> simp [h4, h6]
    try simp only [go_sem, reduceIte, Nat.reduceEqDiff, Nat.reduceAdd, Nat.reduceSub, Nat.reduceMul, Nat.reduceLT, Nat.reduceLeDiff, Nat.reducePow, Int.reduceToNat, Int.reduceLT, Int.reduceLE, Int.reduceEq, Int.reduceNe, Int.reduceAdd, Int.reduceSub, Int.reduceMul, Int.reduceNeg, q2, q3, q4, q5, q6, q7, e2, e3, e4, e5, el, ef, c1, k', ne_eq]
    refine cd_dec (fun k6 => ?_) (fun k6 => ?_)
    · rw [if_pos k6] at hs
      try simp only [go_sem, reduceIte, Nat.reduceEqDiff, Nat.reduceAdd, Nat.reduceSub, Nat.reduceMul, Nat.reduceLT, Nat.reduceLeDiff, Nat.reducePow, Int.reduceToNat, Int.reduceLT, Int.reduceLE, Int.reduceEq, Int.reduceNe, Int.reduceAdd, Int.reduceSub, Int.reduceMul, Int.reduceNeg, q2, q3, q4, q5, q6, q7, e2, e3, e4, e5, el, ef, c1, k', hto, htg, wj]
      refine ⟨fun y hy => ?_, by rw [List.length_map]; omega, fun t' _ => ⟨⟨j + 1, .live t' 1, by omega, TW.live 1 t', by rw [hs]; simp [iD], rfl⟩, by omega⟩⟩
      obtain ⟨z, _, rfl⟩ := List.mem_map.1 hy
      rfl
    · rw [if_neg k6] at hs
      try simp only [go_sem, reduceIte, Nat.reduceEqDiff, Nat.reduceAdd, Nat.reduceSub, Nat.reduceMul, Nat.reduceLT, Nat.reduceLeDiff, Nat.reducePow, Int.reduceToNat, Int.reduceLT, Int.reduceLE, Int.reduceEq, Int.reduceNe, Int.reduceAdd, Int.reduceSub, Int.reduceMul, Int.reduceNeg, q2, q3, q4, q5, q6, q7, e2, e3, e4, e5, el, ef, c1, k', hto, htg, wj]
      exact ⟨⟨j + 1, tk, by omega, hw, by rw [hs]; simp, rfl⟩, by omega⟩
  have hLf : ∀ id ∈ L, ∃ f ∈ fs, f.id = id ∧ f.type ≠ 4 ∧ f.type ≠ 6 := fun id hi => by
    rw [← hL] at hi
    obtain ⟨f, h1, h2⟩ := idsF_fd hi
    exact ⟨f, List.mem_of_mem_take h1, h2⟩
  have eL : (L.map iD).length = L.length := by simp
  try simp only [go_sem, reduceIte, Nat.reduceEqDiff, Nat.reduceAdd, Nat.reduceSub, Nat.reduceMul, Nat.reduceLT, Nat.reduceLeDiff, Nat.reducePow, Int.reduceToNat, Int.reduceLT, Int.reduceLE, Int.reduceEq, Int.reduceNe, Int.reduceAdd, Int.reduceSub, Int.reduceMul, Int.reduceNeg, q2, q3, q4, q5, q6, q7, e2, e3, e4, e5, el]
  clear hw hto htg q7 k
  have e5 : β b5 = some [.int .i64 qr.op, .int .i64 qr.id, .int .i64 qr.lo, .int .i64 qr.hi, .sl .none (qr.set.map Vl.d), .str qr.text, .sl .none (qr.kids.map Pr.d), .int .i64 qm.op, .int .i64 qm.id, .int .i64 qm.lo, .int .i64 qm.hi, .sl .none (qm.set.map Vl.d), .str qm.text, .sl .none (qm.kids.map Pr.d), .sl .none (A.map rwD), .sl .full (([] : List Gu).map guD)] := by simpa using e5
  refine vwq_loop (fun v => ∃ (j : Nat) (gs : List Gu) (u : Tk), j ≤ x.gs.length ∧ j ≤ 3 ∧ gs.length = j ∧ (∀ g ∈ gs, GuMd fs g) ∧ tokOk 10 v.ω u ∧ v.σ 2 = .pb b2 0 ∧ v.σ 3 = .pb b3 0 ∧ v.σ 4 = .pb b4 0 ∧ v.σ 5 = .pb b5 0 ∧ v.σ 6 = .sl tk (L.map iD) ∧ v.σ 8 = .int .i64 j ∧ v.β b2 = some [.sl .none (fs.map fdD), .int .i64 nx] ∧
      v.β b3 = some [.int .i64 x.read.op, .int .i64 x.read.id, .int .i64 x.read.lo, .int .i64 x.read.hi, .sl .none (x.read.set.map Vl.d), .str x.read.text, .sl .none (x.read.kids.map Pr.d), .int .i64 x.remove.op, .int .i64 x.remove.id, .int .i64 x.remove.lo, .int .i64 x.remove.hi, .sl .none (x.remove.set.map Vl.d), .str x.remove.text, .sl .none (x.remove.kids.map Pr.d), .sl .none (x.add.map vsD), .sl .none (x.gs.map guD)] ∧
      (∃ x4, v.β b4 = some x4 ∧ x4.length = 16 ∧ isObj x4 = false) ∧ v.β b5 = some [.int .i64 qr.op, .int .i64 qr.id, .int .i64 qr.lo, .int .i64 qr.hi, .sl .none (qr.set.map Vl.d), .str qr.text, .sl .none (qr.kids.map Pr.d), .int .i64 qm.op, .int .i64 qm.id, .int .i64 qm.lo, .int .i64 qm.hi, .sl .none (qm.set.map Vl.d), .str qm.text, .sl .none (qm.kids.map Pr.d), .sl .none (A.map rwD), .sl u (gs.map guD)]) (fun v => x.gs.length - (ival (v.σ 8)).toNat) ⟨0, [], .full, by omega, by omega, rfl, by simp, trivial, ?_⟩ ?_
  · exact ⟨rfl, rfl, rfl, rfl, rfl, rfl, e2, e3, ⟨_, e4, rfl, rfl⟩, e5⟩
  clear e2 e3 e4 e5 q2 q3 q4 q5 q6
  rintro σ β ω ⟨j, gs, u, hj, hj3, hgs, hgd, hw, q2, q3, q4, q5, q6, q8, e2, e3, ⟨x4, e4, l4, o4⟩, e5⟩
  dsimp only at hw q2 q3 q4 q5 q6 q8 e2 e3 e4 e5
  have hto := eq_true hw
  try simp only [go_sem, reduceIte, Nat.reduceEqDiff, Nat.reduceAdd, Nat.reduceSub, Nat.reduceMul, Nat.reduceLT, Nat.reduceLeDiff, Nat.reducePow, Int.reduceToNat, Int.reduceLT, Int.reduceLE, Int.reduceEq, Int.reduceNe, Int.reduceAdd, Int.reduceSub, Int.reduceMul, Int.reduceNeg, q2, q3, q4, q5, q6, q8, e2, e3, e4, e5, eg, eL]
  refine cd_dec (fun k => ?_) (fun k => ?_)
  · obtain ⟨⟨k1, k2⟩, k3⟩ := k
    have k1' := eq_true k1
    obtain ⟨y, hy, ey⟩ := Gu_at (l := x.gs) (j := j) (by omega)
    have hyo := hx.gs y (List.mem_of_getElem? hy)
    have hp := Pred9_ok (G := G) fs nx h 1 (by omega) y.1 hyo.1.1 hyo.1.2
    simp only [Pr.cells] at hp
    have c1 : ((0 : Int) ≤ j) = True := eq_true (by omega)
    have wj := wrap_i64 (x := (j : Int) + 1) (by omega) (by omega)
    have hL0 : 0 < L.length := by omega
    have hn0 : ((L.length : Int) ≠ 0) = True := eq_true (by omega)
    have y1 := Int.tmod_lt_of_pos y.2.1 (show (0 : Int) < L.length by omega)
    have y2 : -(L.length : Int) < y.2.1.tmod L.length := Int.lt_tmod_of_pos y.2.1 (show (0 : Int) < L.length by omega)
    obtain ⟨w, hw1⟩ : ∃ w, y.2.1.tmod L.length = w := ⟨_, rfl⟩
    rw [hw1] at y1 y2
    have ww := wrap_i64 (x := w + L.length) (by omega) (by omega)
    have y3 := Int.tmod_lt_of_pos (w + L.length) (show (0 : Int) < L.length by omega)
    have y4 : 0 ≤ (w + L.length).tmod L.length := Int.tmod_nonneg _ (by omega)
    obtain ⟨i, hi⟩ : ∃ i : Nat, (w + L.length).tmod L.length = i := ⟨((w + L.length).tmod L.length).toNat, by rw [Int.toNat_of_nonneg y4]⟩
    rw [hi] at y3 y4
    have ei := iD_at (l := L) (j := i) (by omega)
    have hmem : L.getD i 0 ∈ L := by
      have hi' : i < L.length := by omega
      simp [List.getD, hi']
    have c2 : ((0 : Int) ≤ i) = True := eq_true (by omega)
    have c3 : ((i : Int) < L.length) = True := eq_true y3
    have hfd := hLf _ hmem
    generalize L.getD i 0 = id at ei hmem hfd
    try simp only [go_sem, reduceIte, Nat.reduceEqDiff, Nat.reduceAdd, Nat.reduceSub, Nat.reduceMul, Nat.reduceLT, Nat.reduceLeDiff, Nat.reducePow, Int.reduceToNat, Int.reduceLT, Int.reduceLE, Int.reduceEq, Int.reduceNe, Int.reduceAdd, Int.reduceSub, Int.reduceMul, Int.reduceNeg, q2, q3, q4, q5, q6, q8, e2, e3, e4, e5, eg, eL, ey, k1', c1]
    refine new_any fun b9 hb9 => ?_
    have N := And.intro N (box_ne hb9 e2)
    have N := And.intro N (box_ne hb9 e3)
    have N := And.intro N (box_ne hb9 e4)
    have N := And.intro N (box_ne hb9 e5)
    generalize hβ_ : Heap.set _ b9 _ = β_
    have e9 := hit_set hβ_
    have e2 := keep_new hβ_ hb9 e2
    have e3 := keep_new hβ_ hb9 e3
    have e4 := keep_new hβ_ hb9 e4
    have e5 := keep_new hβ_ hb9 e5
    clear hβ_ hb9
    try simp only [go_sem, reduceIte, Nat.reduceEqDiff, Nat.reduceAdd, Nat.reduceSub, Nat.reduceMul, Nat.reduceLT, Nat.reduceLeDiff, Nat.reducePow, Int.reduceToNat, Int.reduceLT, Int.reduceLE, Int.reduceEq, Int.reduceNe, Int.reduceAdd, Int.reduceSub, Int.reduceMul, Int.reduceNeg, N, q2, q3, q4, q5, q6, q8, e2, e3, e4, e5, e9, eg, eL]
    refine cK_vx hp ?_
    rintro _ ⟨q, rfl, vq⟩
    simp only [Pr.cells]
    try simp only [go_sem, reduceIte, Nat.reduceEqDiff, Nat.reduceAdd, Nat.reduceSub, Nat.reduceMul, Nat.reduceLT, Nat.reduceLeDiff, Nat.reducePow, Int.reduceToNat, Int.reduceLT, Int.reduceLE, Int.reduceEq, Int.reduceNe, Int.reduceAdd, Int.reduceSub, Int.reduceMul, Int.reduceNeg, N, q2, q3, q4, q5, q6, q8, e2, e3, e4, e5, e9, eg, eL, hn0, hw1, ww, hi, c2, c3, ei, hto, wj]
    refine ⟨fun z hz => ?_, by rw [List.length_map]; omega, fun t' _ => ⟨⟨j + 1, gs ++ [(q, id, y.2.2.1, y.2.2.2)], .live t' 10, by omega, by omega, by simp [hgs], fun g hg => ?_, ⟨by simp, rfl⟩, ?_⟩, by omega⟩⟩
    · obtain ⟨z, _, rfl⟩ := List.mem_map.1 hz
      rfl
    · rcases List.mem_append.1 hg with hg | hg
      · exact hgd g hg
      · simp at hg; subst hg
        exact ⟨vq, hfd, hyo.2.2.1, hyo.2.2.2⟩
    · simp [Heap.set, N, e2, e3, e4, l4, o4, guD, Pr.cells]
  · try simp only [go_sem, reduceIte, Nat.reduceEqDiff, Nat.reduceAdd, Nat.reduceSub, Nat.reduceMul, Nat.reduceLT, Nat.reduceLeDiff, Nat.reducePow, Int.reduceToNat, Int.reduceLT, Int.reduceLE, Int.reduceEq, Int.reduceNe, Int.reduceAdd, Int.reduceSub, Int.reduceMul, Int.reduceNeg, N, q2, q3, q4, q5, q6, q8, e2, e3, e4, e5, l4, o4]
    exact finK_drop ⟨_, ⟨(qr, qm, A, gs), by simp [D.er, D.er1, Pg.cells, Pr.cells], ⟨vr, vm, hA, hAf, by dsimp only; omega, hgd⟩⟩, rfl, rfl, rfl⟩
theorem Raw_at {l : List Raw} {j : Nat} (h : j < l.length) : ∃ x, l[j]? = some x ∧ (l.map fun x => D.agg x.cells).getD j .any = .agg x.cells := at_map h
def isPgs (fs : List Fd) (n : Nat) (d : D) : Prop := ∃ l : List Pg, d = .sl .none (l.map pgD) ∧ l.length ≤ n ∧ ∀ g ∈ l, PgMd fs g
theorem Raw.len16 (x : Raw) : x.cells.length = 16 := rfl
theorem Raw.one (x : Raw) : x.cells.all D.one = true := rfl
set_option maxHeartbeats 4000000 in
theorem MadeAll_ok (fs : List Fd) (nx : Int) (h : SOk fs nx) (l : List Raw) (hl : ∀ x ∈ l, RawOk x) (n : Nat) (zn : n ≤ 1048576) : VX P G 34 [.agg [.sl .none (fs.map fdD), .int .i64 nx], .sl .none (l.map fun x => .agg x.cells), .int .i64 n] (isPgs fs n) := by
  unfold VX
  refine VC.ofs (fun | 5 => [(0, []), (1, []), (2, []), (3, []), (4, []), (5, []), (6, []), (7, []), (8, []), (9, [])] | 99999999 => [(0, [0, 1, 2, 3, 6, 7, 8, 18])] | _ => []) [6] mixed Tryz.func34 rfl rfl rfl rfl (by decide +kernel) (by simp) ?_
  have el : (l.map fun x => D.agg x.cells).length = l.length := by simp
  simp only [go_sem, reduceIte, Nat.reduceEqDiff, Nat.reduceAdd, Nat.reduceSub, Nat.reduceMul, Nat.reduceLT, Nat.reduceLeDiff, Nat.reducePow, Int.reduceToNat, Int.reduceLT, Int.reduceLE, Int.reduceEq, Int.reduceNe, Int.reduceAdd, Int.reduceSub, Int.reduceMul, Int.reduceNeg]
  intro b3
  generalize hβ : Heap.set Heap.nil b3 _ = β0
  have e3 := hit_set hβ
  clear hβ
  refine vwq_loop (fun v => ∃ (j : Nat) (L : List Pg) (tk : Tk), j ≤ l.length ∧ j ≤ n ∧ L.length = j ∧ (∀ g ∈ L, PgMd fs g) ∧ TW 16 tk v.ω ∧ v.σ 1 = .sl .none (l.map fun x => .agg x.cells) ∧ v.σ 2 = .int .i64 n ∧ v.σ 3 = .pb b3 0 ∧ v.σ 7 = .sl tk (L.map pgD) ∧ v.σ 8 = .int .i64 j ∧ v.β = β0) (fun v => l.length - (ival (v.σ 8)).toNat) ⟨0, [], .full, by omega, by omega, rfl, by simp, TW.full 16, rfl, rfl, rfl, rfl, rfl, rfl⟩ ?_
  rintro σ β ω ⟨j, L, tk, hj, hn, hL, hg, hw, q1, q2, q3, q7, q8, rfl⟩
  dsimp only at hw q1 q2 q3 q7 q8 e3
  have hto := hw.ok
  have htg := hw.gone
  try simp only [go_sem, reduceIte, Nat.reduceEqDiff, Nat.reduceAdd, Nat.reduceSub, Nat.reduceMul, Nat.reduceLT, Nat.reduceLeDiff, Nat.reducePow, Int.reduceToNat, Int.reduceLT, Int.reduceLE, Int.reduceEq, Int.reduceNe, Int.reduceAdd, Int.reduceSub, Int.reduceMul, Int.reduceNeg, q1, q2, q3, q7, q8, e3, el]
  refine cd_dec (fun k => ?_) (fun k => ?_)
  · have k' := eq_true k.1
    obtain ⟨x, hx, ex⟩ := Raw_at (l := l) (j := j) (by omega)
    have hm := Made27_ok (G := G) fs nx h x (hl x (List.mem_of_getElem? hx))
    have c1 : ((0 : Int) ≤ j) = True := eq_true (by omega)
    have wj := wrap_i64 (x := (j : Int) + 1) (by omega) (by omega)
    have xl := x.len16
    try simp only [go_sem, reduceIte, Nat.reduceEqDiff, Nat.reduceAdd, Nat.reduceSub, Nat.reduceMul, Nat.reduceLT, Nat.reduceLeDiff, Nat.reducePow, Int.reduceToNat, Int.reduceLT, Int.reduceLE, Int.reduceEq, Int.reduceNe, Int.reduceAdd, Int.reduceSub, Int.reduceMul, Int.reduceNeg, q1, q2, q3, q7, q8, e3, el, ex, k', c1, xl]
    refine cE_vx hm (isPg_any fs) ?_
    rintro _ ⟨g, rfl, hgm⟩
    simp only [Pg.cells16, Pg.c16]
    try simp only [go_sem, reduceIte, Nat.reduceEqDiff, Nat.reduceAdd, Nat.reduceSub, Nat.reduceMul, Nat.reduceLT, Nat.reduceLeDiff, Nat.reducePow, Int.reduceToNat, Int.reduceLT, Int.reduceLE, Int.reduceEq, Int.reduceNe, Int.reduceAdd, Int.reduceSub, Int.reduceMul, Int.reduceNeg, q1, q2, q3, q7, q8, e3, el, ex, k', c1, xl, hto, htg, wj]
    refine ⟨fun z hz => ?_, by rw [List.length_map]; omega, fun t' _ => ⟨⟨j + 1, L ++ [g], .live t' 16, by omega, by omega, by simp [hL], fun y hy => ?_, TW.live 16 t', by simp [pgD, Pg.c16], rfl⟩, by omega⟩⟩
    · obtain ⟨z, _, rfl⟩ := List.mem_map.1 hz
      rfl
    · rcases List.mem_append.1 hy with hy | hy
      · exact hg y hy
      · simp at hy; subst hy; exact hgm
  · try simp only [go_sem, reduceIte, Nat.reduceEqDiff, Nat.reduceAdd, Nat.reduceSub, Nat.reduceMul, Nat.reduceLT, Nat.reduceLeDiff, Nat.reducePow, Int.reduceToNat, Int.reduceLT, Int.reduceLE, Int.reduceEq, Int.reduceNe, Int.reduceAdd, Int.reduceSub, Int.reduceMul, Int.reduceNeg, q1, q2, q3, q7, q8, e3]
    exact finK_drop ⟨_, ⟨L, by simp [D.er, D.er1], by omega, hg⟩, rfl, rfl, rfl⟩
structure Cs where
  l : List Ch
  rows : List (List Vl)
  p : List Raw
def Cs.cells (c : Cs) : List D := [.sl .none (c.l.map Ch.d), .sl .none (c.rows.map vsD), .sl .none (c.p.map fun x => .agg x.cells)]
structure CsOk (c : Cs) : Prop where
  rows : ∀ l ∈ c.rows, ∀ v ∈ l, I64 v.n
  p : ∀ x ∈ c.p, RawOk x
def isMade (d : D) : Prop := ∃ (fs : List Fd) (nx : Int) (t : Tbl) (l : List Pg), d = .tup [.agg [.sl .none (fs.map fdD), .int .i64 nx], .agg t.cells, .sl .none (l.map pgD)] ∧ SOk fs nx ∧ TMd fs 30 t ∧ l.length ≤ 6 ∧ ∀ g ∈ l, PgMd fs g
set_option maxHeartbeats 4000000 in
theorem made27_ok (c : Cs) (hc : CsOk c) : VX P G 10 [.agg c.cells] isMade := by
  have hm := Made_ok (G := G) c.l 10 (by omega)
  simp only [Cs.cells]
  unfold VX
  refine VC.ofc (fun | 2 => [(0, [4, 8]), (1, []), (2, []), (3, []), (5, [4]), (6, []), (7, [4]), (4, []), (8, []), (9, []), (10, []), (11, [])] | 99999999 => [(0, [0, 1, 2, 3, 4, 5])] | _ => []) [.cell 2 30, .cell 3 33, .tmp 4] mixed Tryz.func10 rfl rfl rfl rfl (by decide +kernel) (by simp) ?_
  simp only [go_sem, reduceIte, Nat.reduceEqDiff, Nat.reduceAdd, Nat.reduceSub, Nat.reduceMul, Nat.reduceLT, Nat.reduceLeDiff, Nat.reducePow, Int.reduceToNat, Int.reduceLT, Int.reduceLE, Int.reduceEq, Int.reduceNe, Int.reduceAdd, Int.reduceSub, Int.reduceMul, Int.reduceNeg]
  intro b1
  generalize hβ : Heap.set Heap.nil b1 _ = β0
  have e1 := hit_set hβ
  clear hβ
  have N := trivial
  try simp only [go_sem, reduceIte, Nat.reduceEqDiff, Nat.reduceAdd, Nat.reduceSub, Nat.reduceMul, Nat.reduceLT, Nat.reduceLeDiff, Nat.reducePow, Int.reduceToNat, Int.reduceLT, Int.reduceLE, Int.reduceEq, Int.reduceNe, Int.reduceAdd, Int.reduceSub, Int.reduceMul, Int.reduceNeg, e1]
  refine new_any fun b2 hb2 => ?_
  have N := And.intro N (box_ne hb2 e1)
  generalize hβ_ : Heap.set _ b2 _ = β_
  have e2 := hit_set hβ_
  have e1 := keep_new hβ_ hb2 e1
  clear hβ_ hb2
  try simp only [go_sem, reduceIte, Nat.reduceEqDiff, Nat.reduceAdd, Nat.reduceSub, Nat.reduceMul, Nat.reduceLT, Nat.reduceLeDiff, Nat.reducePow, Int.reduceToNat, Int.reduceLT, Int.reduceLE, Int.reduceEq, Int.reduceNe, Int.reduceAdd, Int.reduceSub, Int.reduceMul, Int.reduceNeg, N, e1, e2]
  refine new_any fun b3 hb3 => ?_
  have N := And.intro N (box_ne hb3 e1)
  have N := And.intro N (box_ne hb3 e2)
  generalize hβ_ : Heap.set _ b3 _ = β_
  have e3 := hit_set hβ_
  have e1 := keep_new hβ_ hb3 e1
  have e2 := keep_new hβ_ hb3 e2
  clear hβ_ hb3
  try simp only [go_sem, reduceIte, Nat.reduceEqDiff, Nat.reduceAdd, Nat.reduceSub, Nat.reduceMul, Nat.reduceLT, Nat.reduceLeDiff, Nat.reducePow, Int.reduceToNat, Int.reduceLT, Int.reduceLE, Int.reduceEq, Int.reduceNe, Int.reduceAdd, Int.reduceSub, Int.reduceMul, Int.reduceNeg, N, e1, e2, e3]
  refine cK_vx hm ?_
  rintro _ ⟨m, rfl⟩
  try simp only [go_sem, reduceIte, Nat.reduceEqDiff, Nat.reduceAdd, Nat.reduceSub, Nat.reduceMul, Nat.reduceLT, Nat.reduceLeDiff, Nat.reducePow, Int.reduceToNat, Int.reduceLT, Int.reduceLE, Int.reduceEq, Int.reduceNe, Int.reduceAdd, Int.reduceSub, Int.reduceMul, Int.reduceNeg, N, e1, e2, e3]
  refine cK_vx (After_ok m) ?_
  rintro _ ⟨fs, nx, i, e, rfl, hs⟩
  have ht := Table_ok (G := G) fs nx c.rows 30 hs.len hs.ty (by omega) hc.rows
  have hl := MadeAll_ok (G := G) fs nx hs c.p hc.p 6 (by omega)
  try simp only [go_sem, reduceIte, Nat.reduceEqDiff, Nat.reduceAdd, Nat.reduceSub, Nat.reduceMul, Nat.reduceLT, Nat.reduceLeDiff, Nat.reducePow, Int.reduceToNat, Int.reduceLT, Int.reduceLE, Int.reduceEq, Int.reduceNe, Int.reduceAdd, Int.reduceSub, Int.reduceMul, Int.reduceNeg, N, e1, e2, e3]
  refine new_any fun b5 hb5 => ?_
  have N := And.intro N (box_ne hb5 e1)
  have N := And.intro N (box_ne hb5 e2)
  have N := And.intro N (box_ne hb5 e3)
  generalize hβ_ : Heap.set _ b5 _ = β_
  have e5 := hit_set hβ_
  have e1 := keep_new hβ_ hb5 e1
  have e2 := keep_new hβ_ hb5 e2
  have e3 := keep_new hβ_ hb5 e3
  clear hβ_ hb5
  try simp only [go_sem, reduceIte, Nat.reduceEqDiff, Nat.reduceAdd, Nat.reduceSub, Nat.reduceMul, Nat.reduceLT, Nat.reduceLeDiff, Nat.reducePow, Int.reduceToNat, Int.reduceLT, Int.reduceLE, Int.reduceEq, Int.reduceNe, Int.reduceAdd, Int.reduceSub, Int.reduceMul, Int.reduceNeg, N, e1, e2, e3, e5]
  refine cE_vx ht (isTb_any fs 30) ?_
  rintro _ ⟨t, rfl, htm⟩
  try simp only [go_sem, reduceIte, Nat.reduceEqDiff, Nat.reduceAdd, Nat.reduceSub, Nat.reduceMul, Nat.reduceLT, Nat.reduceLeDiff, Nat.reducePow, Int.reduceToNat, Int.reduceLT, Int.reduceLE, Int.reduceEq, Int.reduceNe, Int.reduceAdd, Int.reduceSub, Int.reduceMul, Int.reduceNeg, N, e1, e2, e3, e5]
  refine cE_vx hl ⟨_, [], rfl, by simp, by simp⟩ ?_
  rintro _ ⟨l, rfl, hll, hg⟩
  simp only [Tbl.cells]
  try simp only [go_sem, reduceIte, Nat.reduceEqDiff, Nat.reduceAdd, Nat.reduceSub, Nat.reduceMul, Nat.reduceLT, Nat.reduceLeDiff, Nat.reducePow, Int.reduceToNat, Int.reduceLT, Int.reduceLE, Int.reduceEq, Int.reduceNe, Int.reduceAdd, Int.reduceSub, Int.reduceMul, Int.reduceNeg, N, e1, e2, e3, e5]
  exact ⟨by simp [rdAdd, N], by simp [rdAdd, N], finK_drop ⟨_, ⟨fs, nx, t, l, rfl, hs, htm, hll, hg⟩, rfl, rfl, rfl⟩⟩
end Go.Proofs.YtpblgfgcoamgmaaGreatS
namespace Go.Proofs.YtpblgfgcoamgmaaGreatS
open Go Go.Proofs.YtpblgfgcoamgmaaGreatV

variable {G : Heap}
attribute [local irreducible] VN VC VX VQ VY VW VTA VT0 VPP VP

theorem flat_take_le {α β : Type} (e : α → List β) (l : List α) (j : Nat) : ((l.take j).flatMap e).length ≤ (l.flatMap e).length := by
  have h : l.flatMap e = (l.take j).flatMap e ++ (l.drop j).flatMap e := by rw [← List.flatMap_append, List.take_append_drop]
  rw [h, List.length_append]; omega
theorem flat_snoc {α β : Type} (e : α → List β) {l : List α} {j : Nat} {x : α} (h : l[j]? = some x) : (l.take (j + 1)).flatMap e = (l.take j).flatMap e ++ e x := by
  obtain ⟨h1, h2⟩ := List.getElem?_eq_some_iff.1 h
  rw [List.take_succ_eq_append_getElem h1, List.flatMap_append, h2]; simp
theorem encH_pos (q : Pr) : 0 < (encH q).length := by unfold encH; simp
theorem subs_le_enc (p : Pr) : (subs p).length ≤ (encP p).length := by
  unfold encP
  generalize subs p = l
  induction l with
  | nil => simp
  | cons a l ih =>
    have := encH_pos a
    simp only [List.flatMap_cons, List.length_append, List.length_cons]; omega
theorem pEnc (tk : Tk) (b : List Nat) (p : Pr) (hp : PrE p) (hb : b.length ≤ 2^40) (hl : (encP p).length ≤ 4000000) : VN P G 40 [.sl tk (bs b), .agg p.cells] (.sl .none (bs (b ++ encP p))) := by
  have h := (pEncode_ta (G := G) tk b p hb (Nat.le_trans (subs_le_enc p) hl) hp.pi).vn
  rw [if_pos hp.well] at h
  exact h
theorem RwE_mem : ∀ {r : Rw} {last : Int} {c : Cl}, RwE last r → c ∈ r → last < c.1 ∧ c.1 ≤ 1073741824 ∧ c.2.null = false ∧ I64' c.2.n ∧ c.2.s.size ≤ 200
  | [], _, _, _, h => by cases h
  | a :: r, last, c, h, hc => by
    obtain ⟨h1, h2, h3, h4, h5, h6⟩ := h
    rcases List.mem_cons.1 hc with rfl | hc
    · exact ⟨h1, h2, h3, h4, h5⟩
    · obtain ⟨g1, g2⟩ := RwE_mem h6 hc
      exact ⟨by omega, g2⟩
set_option maxHeartbeats 4000000 in
theorem pEncode27_ok (g : Pg) (hg : PgE g) (hT : (encPg g).length ≤ 4000000) : VN P G 17 [.agg g.cells] (.sl .none (bs (encPg g))) := by
  have hT1 : (encP g.1).length + ((encP g.2.1).length + ((enc g.2.2.1.length).length + ((g.2.2.1.flatMap encRw).length + ((enc g.2.2.2.length).length + (g.2.2.2.flatMap encGu).length)))) ≤ 4000000 := by
    simpa only [encPg, List.length_append] using hT
  have h1 : VN P G 40 [.sl .full [], .agg g.1.cells] (.sl .none (bs (encP g.1))) := pEnc (G := G) .full [] g.1 hg.read (by simp) (by omega)
  have h2 := pEnc (G := G) .none (encP g.1) g.2.1 hg.remove (by omega) (by omega)
  have h3 := U_vn' (G := G) .none (encP g.1 ++ encP g.2.1) g.2.2.1.length _ (by simp only [List.length_append]; omega) (by have := hg.nAdd; omega) rfl
  simp only [Pr.cells] at h1 h2
  unfold VN
  refine VC.ofs (fun | 1 => [(0, []), (1, []), (3, []), (4, [2]), (6, []), (7, [2, 5]), (8, []), (9, []), (2, []), (5, []), (10, []), (11, [])] | 9 => [(0, []), (1, []), (2, []), (3, []), (5, []), (6, []), (7, [4]), (9, []), (10, []), (11, [4, 8]), (4, []), (8, []), (12, []), (13, [])] | 16 => [(0, []), (1, []), (2, []), (4, []), (5, [3]), (6, []), (8, []), (9, [3, 7]), (11, []), (12, [3, 7, 10]), (3, []), (7, []), (10, []), (13, []), (14, [])] | 99999999 => [(0, [0, 1, 2, 3, 5, 7, 9, 22, 23, 24, 25, 35, 36, 37, 38, 63, 64, 65, 66])] | _ => []) [2] mixed Tryz.func17 rfl rfl rfl rfl (by decide +kernel) (by simp) ?_
  have er : (g.2.2.1.map rwD).length = g.2.2.1.length := by simp
  have eg : (g.2.2.2.map guD).length = g.2.2.2.length := by simp
  have hr4 := hg.nAdd
  have hg4 := hg.nGd
  have m1 : (g.2.2.1.length : Int) % 18446744073709551616 = g.2.2.1.length := by omega
  have m2 : (g.2.2.2.length : Int) % 18446744073709551616 = g.2.2.2.length := by omega
  simp only [Pg.cells16, Pg.c16]
  simp only [go_sem, reduceIte, Nat.reduceEqDiff, Nat.reduceAdd, Nat.reduceSub, Nat.reduceMul, Nat.reduceLT, Nat.reduceLeDiff, Nat.reducePow, Int.reduceToNat, Int.reduceLT, Int.reduceLE, Int.reduceEq, Int.reduceNe, Int.reduceAdd, Int.reduceSub, Int.reduceMul, Int.reduceNeg]
  intro b1
  generalize hβ : Heap.set Heap.nil b1 _ = β0
  have e1 := hit_set hβ
  clear hβ
  have N := trivial
  try simp only [go_sem, reduceIte, Nat.reduceEqDiff, Nat.reduceAdd, Nat.reduceSub, Nat.reduceMul, Nat.reduceLT, Nat.reduceLeDiff, Nat.reducePow, Int.reduceToNat, Int.reduceLT, Int.reduceLE, Int.reduceEq, Int.reduceNe, Int.reduceAdd, Int.reduceSub, Int.reduceMul, Int.reduceNeg, e1]
  repeat' (first | simp only [go_sem, reduceIte, Nat.reduceEqDiff, Nat.reduceAdd, Nat.reduceSub, Nat.reduceMul, Nat.reduceLT, Nat.reduceLeDiff, Nat.reducePow, Int.reduceToNat, Int.reduceLT, Int.reduceLE, Int.reduceEq, Int.reduceNe, Int.reduceAdd, Int.reduceSub, Int.reduceMul, Int.reduceNeg, e1, er, m1] | refine cK_vn h1 ?_ | refine cK_vn h2 ?_ | refine cK_vn h3 ?_ | refine cE_vn h1 ?_ | refine cE_vn h2 ?_ | refine cE_vn h3 ?_ | fail)
  obtain ⟨A, hA⟩ : ∃ A, encP g.1 ++ encP g.2.1 ++ enc g.2.2.1.length = A := ⟨_, rfl⟩
  have lA : A.length = (encP g.1).length + ((encP g.2.1).length + (enc g.2.2.1.length).length) := by rw [← hA]; simp only [List.length_append]; omega
  rw [hA]
  clear h1 h2 h3
  refine vwq_loop (fun v => ∃ (j : Nat), j ≤ g.2.2.1.length ∧ v.σ 1 = .pb b1 0 ∧ v.σ 3 = .sl .none (bs (A ++ (g.2.2.1.take j).flatMap encRw)) ∧ v.σ 22 = .sl .none (g.2.2.1.map rwD) ∧ v.σ 23 = .int .i64 g.2.2.1.length ∧ v.σ 24 = .int .i64 j ∧ v.β b1 = some g.c16 ∧ v.ω = []) (fun v => g.2.2.1.length - (ival (v.σ 24)).toNat) ⟨0, by omega, rfl, by rw [List.take_zero, List.flatMap_nil, List.append_nil]; rfl, rfl, rfl, rfl, e1, rfl⟩ ?_
  clear e1
  rintro σ β ω ⟨j, hj, q1, q3, q22, q23, q24, e1, rfl⟩
  dsimp only [Pg.c16] at q1 q3 q22 q23 q24 e1
  obtain ⟨B, hB⟩ : ∃ B, A ++ (g.2.2.1.take j).flatMap encRw = B := ⟨_, rfl⟩
  have lB : B.length = A.length + ((g.2.2.1.take j).flatMap encRw).length := by rw [← hB, List.length_append]
  rw [hB] at q3
  try simp only [go_sem, reduceIte, Nat.reduceEqDiff, Nat.reduceAdd, Nat.reduceSub, Nat.reduceMul, Nat.reduceLT, Nat.reduceLeDiff, Nat.reducePow, Int.reduceToNat, Int.reduceLT, Int.reduceLE, Int.reduceEq, Int.reduceNe, Int.reduceAdd, Int.reduceSub, Int.reduceMul, Int.reduceNeg, q1, q3, q22, q23, q24, e1]
  refine cd_dec (fun kj => ?_) (fun kj => ?_)
  · have k' := eq_true kj
    obtain ⟨x, hx, ex⟩ := Rw_at (l := g.2.2.1) (j := j) (by omega)
    have c1 : ((0 : Int) ≤ j) = True := eq_true (by omega)
    have wj := wrap_i64 (x := (j : Int) + 1) (by omega) (by omega)
    have hs := flat_snoc encRw hx
    have hle := flat_take_le encRw g.2.2.1 (j + 1)
    rw [hs, List.length_append] at hle
    rw [show encRw x = enc x.length ++ x.flatMap encCl from rfl, List.length_append] at hle
    obtain ⟨hx1, hx2⟩ := hg.add x (List.mem_of_getElem? hx)
    have exl : (x.map clD).length = x.length := by simp
    have mx : (x.length : Int) % 18446744073709551616 = x.length := by omega
    have h4 := U_vn' (G := G) .none B x.length _ (by omega) (by omega) rfl
    try simp only [go_sem, reduceIte, Nat.reduceEqDiff, Nat.reduceAdd, Nat.reduceSub, Nat.reduceMul, Nat.reduceLT, Nat.reduceLeDiff, Nat.reducePow, Int.reduceToNat, Int.reduceLT, Int.reduceLE, Int.reduceEq, Int.reduceNe, Int.reduceAdd, Int.reduceSub, Int.reduceMul, Int.reduceNeg, q1, q3, q22, q23, q24, e1, ex, er, c1, k', wj]
    refine new_any fun b5 hb5 => ?_
    have N := And.intro N (box_ne hb5 e1)
    generalize hβ_ : Heap.set _ b5 _ = β_
    have e5 := hit_set hβ_
    have e1 := keep_new hβ_ hb5 e1
    clear hβ_ hb5
    try simp only [go_sem, reduceIte, Nat.reduceEqDiff, Nat.reduceAdd, Nat.reduceSub, Nat.reduceMul, Nat.reduceLT, Nat.reduceLeDiff, Nat.reducePow, Int.reduceToNat, Int.reduceLT, Int.reduceLE, Int.reduceEq, Int.reduceNe, Int.reduceAdd, Int.reduceSub, Int.reduceMul, Int.reduceNeg, N, q1, q3, q22, q23, q24, e1, e5, exl, mx]
    (first | refine cK_vn (h4) ?_ | refine cE_vn (h4) ?_)
    try simp only [go_sem, reduceIte, Nat.reduceEqDiff, Nat.reduceAdd, Nat.reduceSub, Nat.reduceMul, Nat.reduceLT, Nat.reduceLeDiff, Nat.reducePow, Int.reduceToNat, Int.reduceLT, Int.reduceLE, Int.reduceEq, Int.reduceNe, Int.reduceAdd, Int.reduceSub, Int.reduceMul, Int.reduceNeg, N, q1, q3, q22, q23, q24, e1, e5, exl, mx]
    obtain ⟨C, hC⟩ : ∃ C, B ++ enc x.length = C := ⟨_, rfl⟩
    have lC : C.length = B.length + (enc x.length).length := by rw [← hC, List.length_append]
    rw [hC]
    refine vwq_loop (fun v => ∃ (i : Nat), i ≤ x.length ∧ v.σ 1 = .pb b1 0 ∧ v.σ 3 = .sl .none (bs (C ++ (x.take i).flatMap encCl)) ∧ v.σ 22 = .sl .none (g.2.2.1.map rwD) ∧ v.σ 23 = .int .i64 g.2.2.1.length ∧ v.σ 24 = .int .i64 j ∧ v.σ 35 = .sl .none (x.map clD) ∧ v.σ 36 = .int .i64 x.length ∧ v.σ 37 = .int .i64 i ∧ v.β b1 = some g.c16 ∧ v.ω = []) (fun v => x.length - (ival (v.σ 37)).toNat) ⟨0, by omega, rfl, by rw [List.take_zero, List.flatMap_nil, List.append_nil]; rfl, rfl, rfl, rfl, rfl, rfl, rfl, e1, rfl⟩ ?_
    clear e1 e5 q1 q3 q22 q23 q24
    rintro σ β ω ⟨i, hi, q1, q3, q22, q23, q24, q35, q36, q37, e1, rfl⟩
    dsimp only [Pg.c16] at q1 q3 q22 q23 q24 q35 q36 q37 e1
    obtain ⟨D', hD⟩ : ∃ D', C ++ (x.take i).flatMap encCl = D' := ⟨_, rfl⟩
    have lD : D'.length = C.length + ((x.take i).flatMap encCl).length := by rw [← hD, List.length_append]
    rw [hD] at q3
    try simp only [go_sem, reduceIte, Nat.reduceEqDiff, Nat.reduceAdd, Nat.reduceSub, Nat.reduceMul, Nat.reduceLT, Nat.reduceLeDiff, Nat.reducePow, Int.reduceToNat, Int.reduceLT, Int.reduceLE, Int.reduceEq, Int.reduceNe, Int.reduceAdd, Int.reduceSub, Int.reduceMul, Int.reduceNeg, q1, q3, q22, q23, q24, q35, q36, q37, e1]
    refine cd_dec (fun ki => ?_) (fun ki => ?_)
    · have k'' := eq_true ki
      obtain ⟨y, hy, ey⟩ := Cl_at (l := x) (j := i) (by omega)
      have c2 : ((0 : Int) ≤ i) = True := eq_true (by omega)
      have wi := wrap_i64 (x := (i : Int) + 1) (by omega) (by omega)
      have hs2 := flat_snoc encCl hy
      have hle2 := flat_take_le encCl x (i + 1)
      rw [hs2, List.length_append] at hle2
      have ecl : (encCl y).length = (enc y.1.toNat).length + ((enc (zig y.2.n)).length + ((enc y.2.s.size).length + y.2.s.size)) := by
        simp only [encCl, List.length_append, sb_length]
      obtain ⟨y1, y2, y3, y4, y5⟩ := RwE_mem hx2 (List.mem_of_getElem? hy)
      have my : y.1 % 18446744073709551616 = ((y.1.toNat : Nat) : Int) := by omega
      have h5 := U_vn' (G := G) .none D' y.1.toNat _ (by omega) (by omega) rfl
      have h6 := S_vn' (G := G) .none (D' ++ enc y.1.toNat) y.2.n _ y4 (by simp only [List.length_append]; omega) rfl
      have h7 := Text_vn' (G := G) .none (D' ++ enc y.1.toNat ++ enc (zig y.2.n)) y.2.s _ (by simp only [List.length_append]; omega) rfl
      try simp only [go_sem, reduceIte, Nat.reduceEqDiff, Nat.reduceAdd, Nat.reduceSub, Nat.reduceMul, Nat.reduceLT, Nat.reduceLeDiff, Nat.reducePow, Int.reduceToNat, Int.reduceLT, Int.reduceLE, Int.reduceEq, Int.reduceNe, Int.reduceAdd, Int.reduceSub, Int.reduceMul, Int.reduceNeg, q1, q3, q22, q23, q24, q35, q36, q37, e1, exl, ey, c2, k'', wi]
      refine new_any fun b7 hb7 => ?_
      have N := And.intro N (box_ne hb7 e1)
      generalize hβ_ : Heap.set _ b7 _ = β_
      have e7 := hit_set hβ_
      have e1 := keep_new hβ_ hb7 e1
      clear hβ_ hb7
      repeat' (first | simp only [go_sem, reduceIte, Nat.reduceEqDiff, Nat.reduceAdd, Nat.reduceSub, Nat.reduceMul, Nat.reduceLT, Nat.reduceLeDiff, Nat.reducePow, Int.reduceToNat, Int.reduceLT, Int.reduceLE, Int.reduceEq, Int.reduceNe, Int.reduceAdd, Int.reduceSub, Int.reduceMul, Int.reduceNeg, N, q1, q3, q22, q23, q24, q35, q36, q37, e1, e7, exl, ey, c2, k'', wi, my] | refine cK_vn h5 ?_ | refine cK_vn h6 ?_ | refine cK_vn h7 ?_ | refine cE_vn h5 ?_ | refine cE_vn h6 ?_ | refine cE_vn h7 ?_ | fail)
      exact ⟨⟨i + 1, by omega, by rw [hs2, ← hD, encCl]; simp only [List.append_assoc], rfl, rfl⟩, by omega⟩
    · try simp only [go_sem, reduceIte, Nat.reduceEqDiff, Nat.reduceAdd, Nat.reduceSub, Nat.reduceMul, Nat.reduceLT, Nat.reduceLeDiff, Nat.reducePow, Int.reduceToNat, Int.reduceLT, Int.reduceLE, Int.reduceEq, Int.reduceNe, Int.reduceAdd, Int.reduceSub, Int.reduceMul, Int.reduceNeg, q1, q3, q22, q23, q24, q35, q36, q37, e1, wj]
      obtain rfl : i = x.length := by omega
      exact ⟨⟨j + 1, by omega, by rw [hs, ← hD, ← hC, ← hB, List.take_length, encRw]; simp only [List.append_assoc], rfl, rfl⟩, by omega⟩
  · obtain rfl : j = g.2.2.1.length := by omega
    rw [List.take_length] at hB lB
    have h8 := U_vn' (G := G) .none B g.2.2.2.length _ (by omega) (by omega) rfl
    try simp only [go_sem, reduceIte, Nat.reduceEqDiff, Nat.reduceAdd, Nat.reduceSub, Nat.reduceMul, Nat.reduceLT, Nat.reduceLeDiff, Nat.reducePow, Int.reduceToNat, Int.reduceLT, Int.reduceLE, Int.reduceEq, Int.reduceNe, Int.reduceAdd, Int.reduceSub, Int.reduceMul, Int.reduceNeg, q1, q3, q22, q23, q24, e1, eg, m2]
    (first | refine cK_vn (h8) ?_ | refine cE_vn (h8) ?_)
    obtain ⟨E, hE⟩ : ∃ E, B ++ enc g.2.2.2.length = E := ⟨_, rfl⟩
    have lE : E.length = B.length + (enc g.2.2.2.length).length := by rw [← hE, List.length_append]
    rw [hE]
    try simp only [go_sem, reduceIte, Nat.reduceEqDiff, Nat.reduceAdd, Nat.reduceSub, Nat.reduceMul, Nat.reduceLT, Nat.reduceLeDiff, Nat.reducePow, Int.reduceToNat, Int.reduceLT, Int.reduceLE, Int.reduceEq, Int.reduceNe, Int.reduceAdd, Int.reduceSub, Int.reduceMul, Int.reduceNeg, q1, q3, q22, q23, q24, e1, eg, m2]
    refine vwq_loop (fun v => ∃ (i : Nat), i ≤ g.2.2.2.length ∧ v.σ 1 = .pb b1 0 ∧ v.σ 3 = .sl .none (bs (E ++ (g.2.2.2.take i).flatMap encGu)) ∧ v.σ 63 = .sl .none (g.2.2.2.map guD) ∧ v.σ 64 = .int .i64 g.2.2.2.length ∧ v.σ 65 = .int .i64 i ∧ v.β b1 = some g.c16 ∧ v.ω = []) (fun v => g.2.2.2.length - (ival (v.σ 65)).toNat) ⟨0, by omega, rfl, by rw [List.take_zero, List.flatMap_nil, List.append_nil]; rfl, rfl, rfl, rfl, e1, rfl⟩ ?_
    clear e1 q1 q3 q22 q23 q24
    rintro σ β ω ⟨i, hi, q1, q3, q63, q64, q65, e1, rfl⟩
    dsimp only [Pg.c16] at q1 q3 q63 q64 q65 e1
    obtain ⟨F, hF⟩ : ∃ F, E ++ (g.2.2.2.take i).flatMap encGu = F := ⟨_, rfl⟩
    have lF : F.length = E.length + ((g.2.2.2.take i).flatMap encGu).length := by rw [← hF, List.length_append]
    rw [hF] at q3
    try simp only [go_sem, reduceIte, Nat.reduceEqDiff, Nat.reduceAdd, Nat.reduceSub, Nat.reduceMul, Nat.reduceLT, Nat.reduceLeDiff, Nat.reducePow, Int.reduceToNat, Int.reduceLT, Int.reduceLE, Int.reduceEq, Int.reduceNe, Int.reduceAdd, Int.reduceSub, Int.reduceMul, Int.reduceNeg, q1, q3, q63, q64, q65, e1]
    refine cd_dec (fun ki => ?_) (fun ki => ?_)
    · have k'' := eq_true ki
      obtain ⟨y, hy, ey⟩ := Gu_at (l := g.2.2.2) (j := i) (by omega)
      have hgy := hg.gd y (List.mem_of_getElem? hy)
      have c2 : ((0 : Int) ≤ i) = True := eq_true (by omega)
      have wi := wrap_i64 (x := (i : Int) + 1) (by omega) (by omega)
      have hs2 := flat_snoc encGu hy
      have hle2 := flat_take_le encGu g.2.2.2 (i + 1)
      rw [hs2, List.length_append] at hle2
      have egl : (encGu y).length = (encP y.1).length + ((enc y.2.1.toNat).length + ((enc (zig y.2.2.1)).length + (enc (zig y.2.2.2)).length)) := by
        simp only [encGu, List.length_append]
      have hid := hgy.id
      have my : y.2.1 % 18446744073709551616 = ((y.2.1.toNat : Nat) : Int) := by omega
      have h5 := pEnc (G := G) .none F y.1 hgy.pr (by omega) (by omega)
      have h6 := U_vn' (G := G) .none (F ++ encP y.1) y.2.1.toNat _ (by simp only [List.length_append]; omega) (by omega) rfl
      have h7 := S_vn' (G := G) .none (F ++ encP y.1 ++ enc y.2.1.toNat) y.2.2.1 _ hgy.lo (by simp only [List.length_append]; omega) rfl
      have h9 := S_vn' (G := G) .none (F ++ encP y.1 ++ enc y.2.1.toNat ++ enc (zig y.2.2.1)) y.2.2.2 _ hgy.hi (by simp only [List.length_append]; omega) rfl
      simp only [Pr.cells] at h5
      try simp only [go_sem, reduceIte, Nat.reduceEqDiff, Nat.reduceAdd, Nat.reduceSub, Nat.reduceMul, Nat.reduceLT, Nat.reduceLeDiff, Nat.reducePow, Int.reduceToNat, Int.reduceLT, Int.reduceLE, Int.reduceEq, Int.reduceNe, Int.reduceAdd, Int.reduceSub, Int.reduceMul, Int.reduceNeg, q1, q3, q63, q64, q65, e1, eg, ey, c2, k'', wi]
      refine new_any fun b9 hb9 => ?_
      have N := And.intro N (box_ne hb9 e1)
      generalize hβ_ : Heap.set _ b9 _ = β_
      have e9 := hit_set hβ_
      have e1 := keep_new hβ_ hb9 e1
      clear hβ_ hb9
      repeat' (first | simp only [go_sem, reduceIte, Nat.reduceEqDiff, Nat.reduceAdd, Nat.reduceSub, Nat.reduceMul, Nat.reduceLT, Nat.reduceLeDiff, Nat.reducePow, Int.reduceToNat, Int.reduceLT, Int.reduceLE, Int.reduceEq, Int.reduceNe, Int.reduceAdd, Int.reduceSub, Int.reduceMul, Int.reduceNeg, N, q1, q3, q63, q64, q65, e1, e9, eg, ey, c2, k'', wi, my] | refine cK_vn h5 ?_ | refine cK_vn h6 ?_ | refine cK_vn h7 ?_ | refine cK_vn h9 ?_ | refine cE_vn h5 ?_ | refine cE_vn h6 ?_ | refine cE_vn h7 ?_ | refine cE_vn h9 ?_ | fail)
      exact ⟨⟨i + 1, by omega, by rw [hs2, ← hF, encGu]; simp only [List.append_assoc], rfl, rfl⟩, by omega⟩
    · obtain rfl : i = g.2.2.2.length := by omega
      rw [List.take_length] at hF
      try simp only [go_sem, reduceIte, Nat.reduceEqDiff, Nat.reduceAdd, Nat.reduceSub, Nat.reduceMul, Nat.reduceLT, Nat.reduceLeDiff, Nat.reducePow, Int.reduceToNat, Int.reduceLT, Int.reduceLE, Int.reduceEq, Int.reduceNe, Int.reduceAdd, Int.reduceSub, Int.reduceMul, Int.reduceNeg, q1, q3, q63, q64, q65, e1]
      refine finK_drop ⟨?_, rfl, rfl⟩
      rw [← hF, ← hE, ← hB, ← hA, encPg]
      simp only [List.append_assoc]
      rfl
end Go.Proofs.YtpblgfgcoamgmaaGreatS
namespace Go.Proofs.YtpblgfgcoamgmaaGreatS
open Go Go.Proofs.YtpblgfgcoamgmaaGreatV

variable {G : Heap}
attribute [local irreducible] VN VC VX VQ VY VW VTA VT0 VPP VP

section
variable {P : Program} {β : Heap} {ω : List Nat} {f : FuncId} {args args' : List D} {d : D} {ops : Array Oper} {rest : List Oper} {es : List Ent} {Q : VE → St → Prop} {dst : Option Tmp} {σ : Sg} {U : List Nat} {i : Nat} {rd : Rd}
theorem cK_lit (h : VN P G f args' d) (e : args.map D.er = args') (hk : Ko P G ops rest Q dst σ d β ω) : cK P G (.clo (.func f) [] []) args β ω ops rest Q dst σ := cK_vn (VN.er (by rw [e]; exact h)) hk
theorem cE_lit (h : VN P G f args' d) (e : args.map D.er = args') (hk : Kd P G ops es Q dst σ d rd β ω) : cE P G U i (.clo (.func f) [] []) True args rd β ω ops es Q dst σ := cE_vn (VN.er (by rw [e]; exact h)) hk
end
theorem sPrE {p : Pr} (h : wellF p = true) (hi : ((subs p).all fun q => decide (I64' q.id) && decide (I64' q.lo) && decide (I64' q.hi) && q.set.all fun v => decide (I64' v.n)) = true) : PrE p :=
  ⟨h, fun q hq => by
    have := List.all_eq_true.1 hi q hq
    simp only [Bool.and_eq_true, decide_eq_true_eq, List.all_eq_true] at this
    exact ⟨this.1.1.1, this.1.1.2, this.1.2, this.2⟩⟩
theorem nulE : PrE Pr.nul := sPrE (by decide +kernel) (by decide +kernel)
theorem pgNulE : PgE Pg.nul := ⟨nulE, nulE, by decide, by simp [Pg.nul], by decide, by simp [Pg.nul]⟩
def row27 : Rw := [(1, ⟨false, 5, ByteArray.empty⟩)]
def tab27 : Tbl := ⟨2, [(0, row27), (1, row27)]⟩
def gu27 (lo hi : Int) : Gu := (Pr.nul, 1, lo, hi)
theorem encE27 : PgE (Pr.nul, Pr.nul, [row27], [gu27 1 9]) := by
  refine ⟨nulE, nulE, by decide, ?_, by decide, ?_⟩
  · intro r hr
    simp only [List.mem_singleton] at hr
    subst hr
    exact ⟨by decide, by simp [row27, RwE]; decide⟩
  · intro x hx
    simp only [List.mem_singleton] at hx
    subst hx
    exact ⟨nulE, by decide, by decide, by decide⟩
theorem pgErr {b : List Nat} {e : Int} (he : e ≠ 0) (h : (pgDecF b).2 = e) : pgDecF b = (Pg.nul, e) := by
  unfold pgDecF at h ⊢
  dsimp only at h ⊢
  split
  · rename_i k; rw [if_pos k] at h; rw [h]
  rename_i k; rw [if_neg k] at h
  split
  · rename_i k; rw [if_pos k] at h; rw [h]
  rename_i k; rw [if_neg k] at h
  split
  · rename_i k; rw [if_pos k] at h; rw [h]
  rename_i k; rw [if_neg k] at h
  split
  · rename_i k; rw [if_pos k] at h; rw [h]
  rename_i k; rw [if_neg k] at h
  split
  · rename_i k; rw [if_pos k] at h; rw [← h]
  rename_i k; rw [if_neg k] at h
  exact absurd h.symm he
theorem dec27 (tk : Tk) (b : List Nat) (r : Pg × Int) (hb : Byt b) (hl : b.length ≤ 1099511627776) (h : pgDecF b = r) : VN P G 18 [.sl tk (bs b)] (.tup [.agg r.1.cells, .int .i64 r.2]) := by
  subst h; exact pgDecode_ok tk b hb hl
theorem run27 (g : Pg) (t : Tbl) (r : Tbl × Int) (hn : I64 t.next) (ht : t.l.length ≤ 1048576) (h : runF g t = r) : VN P G 11 [.agg g.cells, .agg t.cells] (.tup [.agg r.1.cells, .int .i64 r.2]) := by
  subst h; exact Run_ok g t hn ht
theorem check27 (g : Pg) (t : Tbl) (r : Int × Int) (h : checkF t g.2.2.2 = r) : VN P G 16 [.agg g.cells, .agg t.cells] (.tup [.int .i64 r.1, .int .i64 r.2]) := by
  subst h; exact Check_ok g t
theorem enc27 (g : Pg) (x : List Nat) (hg : PgE g) (h : encPg g = x) (hl : x.length ≤ 4000000) : VN P G 17 [.agg g.cells] (.sl .none (bs x)) := by
  subst h; exact pEncode27_ok g hg hl
set_option maxRecDepth 100000 in
set_option maxHeartbeats 8000000 in
theorem law27_sanity_ok : VN P G 9 [] (.bool true) := by
  have hr1 := run27 (G := G) (Pr.nul, Pr.nul, [row27], []) tab27 (⟨3, [(2, row27)]⟩, 0) (by decide) (by decide) (by decide +kernel)
  have hc1 := check27 (G := G) (Pr.nul, Pr.nul, [], [gu27 1 9]) Tbl.nul (0, 270) (by decide +kernel)
  have hr2 := run27 (G := G) (Pr.nul, Pr.nul, [], [gu27 1 9]) tab27 (Tbl.nul, 270) (by decide) (by decide) (by decide +kernel)
  have hc2 := check27 (G := G) (Pr.nul, Pr.nul, [], [gu27 10 10]) tab27 (1, 0) (by decide +kernel)
  have hd1 := fun tk => dec27 (G := G) tk [0, 0, 0, 0] (Pg.nul, 0) (byt_all (by decide)) (by decide) (by
    have h := pgDec_enc pgNulE
    rw [show encPg Pg.nul = [0, 0, 0, 0] from by decide +kernel] at h
    exact h)
  have hd2 := fun tk => dec27 (G := G) tk [0, 0, 0, 0, 0] (Pg.nul, 5) (byt_all (by decide)) (by decide) (by
    have h := pgDec_more pgNulE (x := [0]) (by simp)
    rw [show encPg Pg.nul = [0, 0, 0, 0] from by decide +kernel] at h
    exact h)
  have hd3 := fun tk => dec27 (G := G) tk [] (Pg.nul, 6) (byt_all (by decide)) (by decide) (pgErr (by decide) (by decide +kernel))
  have he := enc27 (G := G) (Pr.nul, Pr.nul, [row27], [gu27 1 9]) [0, 0, 1, 1, 1, 10, 0, 1, 0, 1, 2, 18] encE27 (by decide +kernel) (by decide)
  have hs := SameTable_refl (G := G) ⟨3, [(2, row27)]⟩
  have hs2 := Same27_ok (G := G) Pg.nul
  unfold VN
  refine VC.ofs (fun | 99999999 => [(0, [0, 1, 2, 3, 4, 5, 6, 7, 9, 10, 11, 12, 13, 15, 17, 18])] | _ => []) [0] mixed Tryz.func9 rfl rfl rfl rfl (by decide +kernel) (by simp) ?_
  simp only [go_sem, reduceIte, Nat.reduceEqDiff, Nat.reduceAdd, Nat.reduceSub, Nat.reduceMul, Nat.reduceLT, Nat.reduceLeDiff, Nat.reducePow, Int.reduceToNat, Int.reduceLT, Int.reduceLE, Int.reduceEq, Int.reduceNe, Int.reduceAdd, Int.reduceSub, Int.reduceMul, Int.reduceNeg]
  intro b1
  generalize hβ : Heap.set _ b1 _ = β0
  have e1 := hit_set hβ
  clear hβ
  have N := trivial
  try simp only [go_sem, reduceIte, Nat.reduceEqDiff, Nat.reduceAdd, Nat.reduceSub, Nat.reduceMul, Nat.reduceLT, Nat.reduceLeDiff, Nat.reducePow, Int.reduceToNat, Int.reduceLT, Int.reduceLE, Int.reduceEq, Int.reduceNe, Int.reduceAdd, Int.reduceSub, Int.reduceMul, Int.reduceNeg, e1]
  refine new_any fun b2 hb2 => ?_
  have N := And.intro N (box_ne hb2 e1)
  generalize hβ_ : Heap.set _ b2 _ = β_
  have e2 := hit_set hβ_
  have e1 := keep_new hβ_ hb2 e1
  clear hβ_ hb2
  try simp only [go_sem, reduceIte, Nat.reduceEqDiff, Nat.reduceAdd, Nat.reduceSub, Nat.reduceMul, Nat.reduceLT, Nat.reduceLeDiff, Nat.reducePow, Int.reduceToNat, Int.reduceLT, Int.reduceLE, Int.reduceEq, Int.reduceNe, Int.reduceAdd, Int.reduceSub, Int.reduceMul, Int.reduceNeg, N, e1, e2]
  first | refine cK_lit hr1 (by rfl) ?_ | refine cE_lit hr1 (by rfl) ?_
  simp only [Tbl.cells, Tbl.nul, lnD, row27, List.map_cons, List.map_nil, clD]
  try simp only [go_sem, reduceIte, Nat.reduceEqDiff, Nat.reduceAdd, Nat.reduceSub, Nat.reduceMul, Nat.reduceLT, Nat.reduceLeDiff, Nat.reducePow, Int.reduceToNat, Int.reduceLT, Int.reduceLE, Int.reduceEq, Int.reduceNe, Int.reduceAdd, Int.reduceSub, Int.reduceMul, Int.reduceNeg, N, e1, e2]
  refine new_any fun b3 hb3 => ?_
  have N := And.intro N (box_ne hb3 e1)
  have N := And.intro N (box_ne hb3 e2)
  generalize hβ_ : Heap.set _ b3 _ = β_
  have e3 := hit_set hβ_
  have e1 := keep_new hβ_ hb3 e1
  have e2 := keep_new hβ_ hb3 e2
  clear hβ_ hb3
  try simp only [go_sem, reduceIte, Nat.reduceEqDiff, Nat.reduceAdd, Nat.reduceSub, Nat.reduceMul, Nat.reduceLT, Nat.reduceLeDiff, Nat.reducePow, Int.reduceToNat, Int.reduceLT, Int.reduceLE, Int.reduceEq, Int.reduceNe, Int.reduceAdd, Int.reduceSub, Int.reduceMul, Int.reduceNeg, N, e1, e2, e3]
  refine new_any fun b5 hb5 => ?_
  have N := And.intro N (box_ne hb5 e1)
  have N := And.intro N (box_ne hb5 e2)
  have N := And.intro N (box_ne hb5 e3)
  generalize hβ_ : Heap.set _ b5 _ = β_
  have e5 := hit_set hβ_
  have e1 := keep_new hβ_ hb5 e1
  have e2 := keep_new hβ_ hb5 e2
  have e3 := keep_new hβ_ hb5 e3
  clear hβ_ hb5
  try simp only [go_sem, reduceIte, Nat.reduceEqDiff, Nat.reduceAdd, Nat.reduceSub, Nat.reduceMul, Nat.reduceLT, Nat.reduceLeDiff, Nat.reducePow, Int.reduceToNat, Int.reduceLT, Int.reduceLE, Int.reduceEq, Int.reduceNe, Int.reduceAdd, Int.reduceSub, Int.reduceMul, Int.reduceNeg, N, e1, e2, e3, e5]
  first | refine cK_lit hc1 (by rfl) ?_ | refine cE_lit hc1 (by rfl) ?_
  try simp only [go_sem, reduceIte, Nat.reduceEqDiff, Nat.reduceAdd, Nat.reduceSub, Nat.reduceMul, Nat.reduceLT, Nat.reduceLeDiff, Nat.reducePow, Int.reduceToNat, Int.reduceLT, Int.reduceLE, Int.reduceEq, Int.reduceNe, Int.reduceAdd, Int.reduceSub, Int.reduceMul, Int.reduceNeg, N, e1, e2, e3, e5]
  first | refine cK_lit hr2 (by rfl) ?_ | refine cE_lit hr2 (by rfl) ?_
  simp only [Tbl.cells, Tbl.nul, lnD, row27, List.map_cons, List.map_nil, clD]
  try simp only [go_sem, reduceIte, Nat.reduceEqDiff, Nat.reduceAdd, Nat.reduceSub, Nat.reduceMul, Nat.reduceLT, Nat.reduceLeDiff, Nat.reducePow, Int.reduceToNat, Int.reduceLT, Int.reduceLE, Int.reduceEq, Int.reduceNe, Int.reduceAdd, Int.reduceSub, Int.reduceMul, Int.reduceNeg, N, e1, e2, e3, e5]
  refine new_any fun b8 hb8 => ?_
  have N := And.intro N (box_ne hb8 e1)
  have N := And.intro N (box_ne hb8 e2)
  have N := And.intro N (box_ne hb8 e3)
  have N := And.intro N (box_ne hb8 e5)
  generalize hβ_ : Heap.set _ b8 _ = β_
  have e8 := hit_set hβ_
  have e1 := keep_new hβ_ hb8 e1
  have e2 := keep_new hβ_ hb8 e2
  have e3 := keep_new hβ_ hb8 e3
  have e5 := keep_new hβ_ hb8 e5
  clear hβ_ hb8
  try simp only [go_sem, reduceIte, Nat.reduceEqDiff, Nat.reduceAdd, Nat.reduceSub, Nat.reduceMul, Nat.reduceLT, Nat.reduceLeDiff, Nat.reducePow, Int.reduceToNat, Int.reduceLT, Int.reduceLE, Int.reduceEq, Int.reduceNe, Int.reduceAdd, Int.reduceSub, Int.reduceMul, Int.reduceNeg, N, e1, e2, e3, e5, e8]
  first | refine cK_lit hc2 (by rfl) ?_ | refine cE_lit hc2 (by rfl) ?_
  try simp only [go_sem, reduceIte, Nat.reduceEqDiff, Nat.reduceAdd, Nat.reduceSub, Nat.reduceMul, Nat.reduceLT, Nat.reduceLeDiff, Nat.reducePow, Int.reduceToNat, Int.reduceLT, Int.reduceLE, Int.reduceEq, Int.reduceNe, Int.reduceAdd, Int.reduceSub, Int.reduceMul, Int.reduceNeg, N, e1, e2, e3, e5, e8]
  first | refine cK_vn (hd1 _) ?_ | refine cE_vn (hd1 _) ?_
  simp only [Pg.cells16, Pg.c16, Pg.nul, Pr.nul, Pr.op, Pr.id, Pr.lo, Pr.hi, Pr.set, Pr.text, Pr.kids, List.map_nil]
  try simp only [go_sem, reduceIte, Nat.reduceEqDiff, Nat.reduceAdd, Nat.reduceSub, Nat.reduceMul, Nat.reduceLT, Nat.reduceLeDiff, Nat.reducePow, Int.reduceToNat, Int.reduceLT, Int.reduceLE, Int.reduceEq, Int.reduceNe, Int.reduceAdd, Int.reduceSub, Int.reduceMul, Int.reduceNeg, N, e1, e2, e3, e5, e8]
  refine new_any fun b12 hb12 => ?_
  have N := And.intro N (box_ne hb12 e1)
  have N := And.intro N (box_ne hb12 e2)
  have N := And.intro N (box_ne hb12 e3)
  have N := And.intro N (box_ne hb12 e5)
  generalize hβ_ : Heap.set _ b12 _ = β_
  have e12 := hit_set hβ_
  have e1 := keep_new hβ_ hb12 e1
  have e2 := keep_new hβ_ hb12 e2
  have e3 := keep_new hβ_ hb12 e3
  have e5 := keep_new hβ_ hb12 e5
  clear hβ_ hb12
  try simp only [go_sem, reduceIte, Nat.reduceEqDiff, Nat.reduceAdd, Nat.reduceSub, Nat.reduceMul, Nat.reduceLT, Nat.reduceLeDiff, Nat.reducePow, Int.reduceToNat, Int.reduceLT, Int.reduceLE, Int.reduceEq, Int.reduceNe, Int.reduceAdd, Int.reduceSub, Int.reduceMul, Int.reduceNeg, N, e1, e2, e3, e5, e12]
  first | refine cK_vn (hd2 _) ?_ | refine cE_vn (hd2 _) ?_
  simp only [Pg.cells16, Pg.c16, Pg.nul, Pr.nul, Pr.op, Pr.id, Pr.lo, Pr.hi, Pr.set, Pr.text, Pr.kids, List.map_nil]
  try simp only [go_sem, reduceIte, Nat.reduceEqDiff, Nat.reduceAdd, Nat.reduceSub, Nat.reduceMul, Nat.reduceLT, Nat.reduceLeDiff, Nat.reducePow, Int.reduceToNat, Int.reduceLT, Int.reduceLE, Int.reduceEq, Int.reduceNe, Int.reduceAdd, Int.reduceSub, Int.reduceMul, Int.reduceNeg, N, e1, e2, e3, e5, e12]
  refine new_any fun b14 hb14 => ?_
  have N := And.intro N (box_ne hb14 e1)
  have N := And.intro N (box_ne hb14 e2)
  have N := And.intro N (box_ne hb14 e3)
  have N := And.intro N (box_ne hb14 e5)
  have N := And.intro N (box_ne hb14 e12)
  generalize hβ_ : Heap.set _ b14 _ = β_
  have e14 := hit_set hβ_
  have e1 := keep_new hβ_ hb14 e1
  have e2 := keep_new hβ_ hb14 e2
  have e3 := keep_new hβ_ hb14 e3
  have e5 := keep_new hβ_ hb14 e5
  have e12 := keep_new hβ_ hb14 e12
  clear hβ_ hb14
  try simp only [go_sem, reduceIte, Nat.reduceEqDiff, Nat.reduceAdd, Nat.reduceSub, Nat.reduceMul, Nat.reduceLT, Nat.reduceLeDiff, Nat.reducePow, Int.reduceToNat, Int.reduceLT, Int.reduceLE, Int.reduceEq, Int.reduceNe, Int.reduceAdd, Int.reduceSub, Int.reduceMul, Int.reduceNeg, N, e1, e2, e3, e5, e12]
  first | refine cK_vn (hd3 _) ?_ | refine cE_vn (hd3 _) ?_
  simp only [Pg.cells16, Pg.c16, Pg.nul, Pr.nul, Pr.op, Pr.id, Pr.lo, Pr.hi, Pr.set, Pr.text, Pr.kids, List.map_nil]
  try simp only [go_sem, reduceIte, Nat.reduceEqDiff, Nat.reduceAdd, Nat.reduceSub, Nat.reduceMul, Nat.reduceLT, Nat.reduceLeDiff, Nat.reducePow, Int.reduceToNat, Int.reduceLT, Int.reduceLE, Int.reduceEq, Int.reduceNe, Int.reduceAdd, Int.reduceSub, Int.reduceMul, Int.reduceNeg, N, e1, e2, e3, e5, e12]
  refine new_any fun b16 hb16 => ?_
  have N := And.intro N (box_ne hb16 e1)
  have N := And.intro N (box_ne hb16 e2)
  have N := And.intro N (box_ne hb16 e3)
  have N := And.intro N (box_ne hb16 e5)
  have N := And.intro N (box_ne hb16 e12)
  generalize hβ_ : Heap.set _ b16 _ = β_
  have e16 := hit_set hβ_
  have e1 := keep_new hβ_ hb16 e1
  have e2 := keep_new hβ_ hb16 e2
  have e3 := keep_new hβ_ hb16 e3
  have e5 := keep_new hβ_ hb16 e5
  have e12 := keep_new hβ_ hb16 e12
  clear hβ_ hb16
  try simp only [go_sem, reduceIte, Nat.reduceEqDiff, Nat.reduceAdd, Nat.reduceSub, Nat.reduceMul, Nat.reduceLT, Nat.reduceLeDiff, Nat.reducePow, Int.reduceToNat, Int.reduceLT, Int.reduceLE, Int.reduceEq, Int.reduceNe, Int.reduceAdd, Int.reduceSub, Int.reduceMul, Int.reduceNeg, N, e1, e2, e3, e5, e12]
  first | refine cK_lit he (by rfl) ?_ | refine cE_lit he (by rfl) ?_
  try simp only [go_sem, reduceIte, Nat.reduceEqDiff, Nat.reduceAdd, Nat.reduceSub, Nat.reduceMul, Nat.reduceLT, Nat.reduceLeDiff, Nat.reducePow, Int.reduceToNat, Int.reduceLT, Int.reduceLE, Int.reduceEq, Int.reduceNe, Int.reduceAdd, Int.reduceSub, Int.reduceMul, Int.reduceNeg, N, e1, e2, e3, e5, e12]
  first | refine cK_lit hs (by rfl) ?_ | refine cE_lit hs (by rfl) ?_
  try simp only [go_sem, reduceIte, Nat.reduceEqDiff, Nat.reduceAdd, Nat.reduceSub, Nat.reduceMul, Nat.reduceLT, Nat.reduceLeDiff, Nat.reducePow, Int.reduceToNat, Int.reduceLT, Int.reduceLE, Int.reduceEq, Int.reduceNe, Int.reduceAdd, Int.reduceSub, Int.reduceMul, Int.reduceNeg, N, e1, e2, e3, e5, e12, decide_true]
  first | refine cK_lit hs2 (by rfl) ?_ | refine cE_lit hs2 (by rfl) ?_
  try simp only [go_sem, reduceIte, Nat.reduceEqDiff, Nat.reduceAdd, Nat.reduceSub, Nat.reduceMul, Nat.reduceLT, Nat.reduceLeDiff, Nat.reducePow, Int.reduceToNat, Int.reduceLT, Int.reduceLE, Int.reduceEq, Int.reduceNe, Int.reduceAdd, Int.reduceSub, Int.reduceMul, Int.reduceNeg, N, e1, e2, e3, e5, e12, decide_true]
  refine ⟨by decide, by decide, finK_drop ⟨?_, rfl, rfl⟩⟩
  rw [decide_eq_true (by rfl)]
  rfl
end Go.Proofs.YtpblgfgcoamgmaaGreatS
