import Derived.Test.YtdemkhcloholiaaA8
set_option linter.unusedVariables false
set_option linter.unusedSimpArgs false
namespace Go.Proofs.YtdemkhcloholiaaS
open Go Go.Proofs.YtdemkhcloholiaaV

/-! What is written is read back: plain facts. -/
theorem enc_ne (n : Nat) : enc n ≠ [] := by unfold enc; split <;> simp
theorem byt_enc : ∀ n, Byt (enc n) := fun n => by
  induction n using Nat.strongRecOn with
  | _ n ih =>
    by_cases h : n < 128
    · rw [enc_small h]; intro c hc; simp at hc; omega
    · rw [enc_big (by omega)]
      intro c hc
      rcases List.mem_cons.1 hc with rfl | hc
      · omega
      · exact ih (n / 128) (by omega) c hc
theorem Byt.append {a b : List Nat} (h : Byt a) (h' : Byt b) : Byt (a ++ b) := fun c hc => by
  rcases List.mem_append.1 hc with hc | hc
  · exact h c hc
  · exact h' c hc
theorem Byt.take {a : List Nat} (h : Byt a) (n : Nat) : Byt (a.take n) := fun c hc => h c (List.mem_of_mem_take hc)
theorem Byt.drop {a : List Nat} (h : Byt a) (n : Nat) : Byt (a.drop n) := fun c hc => h c (List.mem_of_mem_drop hc)
theorem Byt.nil : Byt [] := fun c hc => by simp at hc

theorem rd_enc (k : Nat) (after : List Nat) : ∀ (m i acc : Nat), i ≤ 9 → m < 2 ^ (64 - 7 * i) → (0 < i → 0 < m) → rd k (enc m ++ after) i acc = (acc + 2 ^ (7 * i) * m, k + i + (enc m).length, 0) := fun m => by
  induction m using Nat.strongRecOn with
  | _ m ih =>
    intro i acc hi hm h0
    by_cases h : m < 128
    · rw [enc_small h]
      have h1 : ¬ (128 ≤ m ∧ i ≠ 9) := by omega
      have h2 : ¬ ((i = 9 ∧ 1 < m) ∨ (m = 0 ∧ 0 < i)) := by
        rintro (⟨rfl, h3⟩ | ⟨rfl, h3⟩)
        · have : m < 2 := by simpa using hm
          omega
        · have := h0 h3; omega
      simp only [List.singleton_append, rd, if_neg h1, if_neg h2, List.length_singleton, Nat.mod_eq_of_lt h]
    · have h9 : i ≠ 9 := by
        rintro rfl
        have : m < 2 := by simpa using hm
        omega
      have hm' : m / 128 < 2 ^ (64 - 7 * (i + 1)) := by
        have e : 64 - 7 * i = (64 - 7 * (i + 1)) + 7 := by omega
        rw [e, Nat.pow_add] at hm
        exact Nat.div_lt_of_lt_mul (by rw [Nat.mul_comm]; exact hm)
      have := ih (m / 128) (by omega) (i + 1) (acc + 2 ^ (7 * i) * (m % 128)) (by omega) hm' (by omega)
      rw [enc_big (by omega)]
      have h1 : 128 ≤ m % 128 + 128 ∧ i ≠ 9 := ⟨by omega, h9⟩
      have h2 : (m % 128 + 128) % 128 = m % 128 := by omega
      simp only [List.cons_append, rd, if_pos h1, h2, this, List.length_cons]
      have e : 2 ^ (7 * (i + 1)) = 2 ^ (7 * i) * 128 := by rw [Nat.mul_add, Nat.pow_add]
      have e2 : 2 ^ (7 * i) * m = 2 ^ (7 * i) * (m % 128) + 2 ^ (7 * i) * 128 * (m / 128) := by
        rw [Nat.mul_assoc, ← Nat.mul_add]; congr 1; omega
      rw [e, e2]
      simp only [Prod.mk.injEq, and_true]
      omega

theorem readU_enc (before after : List Nat) (n : Nat) (hn : n < 18446744073709551616) : readU (before ++ enc n ++ after) before.length = (n, before.length + (enc n).length, 0) := by
  unfold readU
  rw [if_neg (by simp; omega)]
  have e : ((before.length : Nat) : Int).toNat = before.length := rfl
  rw [e, List.append_assoc, List.drop_left, rd_enc _ _ n 0 0 (by omega) (by simpa using hn) (by omega)]
  simp

theorem unzig_zig (k : Int) : unzig (zig k) = k := by
  unfold unzig zig
  split <;> split <;> omega

theorem spanF_enc (before p after : List Nat) (hp : p.length ≤ 1048576) : spanF (before ++ enc p.length ++ p ++ after) before.length = (before.length + (enc p.length).length, before.length + (enc p.length).length + p.length, 0) := by
  unfold spanF
  have h := readU_enc before (p ++ after) p.length (by omega)
  rw [← List.append_assoc] at h
  simp only [h]
  rw [if_neg (by simp), if_neg (by omega), if_neg (by simp; omega)]

theorem cut_enc (before p after : List Nat) (n : Nat) : ((before ++ enc n ++ p ++ after).drop (before.length + (enc n).length)).take (before.length + (enc n).length + p.length - (before.length + (enc n).length)) = p := by
  have e : before.length + (enc n).length = (before ++ enc n).length := by simp
  rw [e, List.append_assoc, List.drop_left]
  simp

theorem strN_sb (s : ByteArray) : strN (sb s) = s := by
  have h1 : ∀ (l : List UInt8) (r : ByteArray), ((l.map fun c => (c.toNat : Int)).foldl (fun r n => r.push (UInt8.ofNat n.toNat)) r).data.toList = r.data.toList ++ l := by
    intro l
    induction l with
    | nil => intro r; simp
    | cons c l ih =>
      intro r
      rw [List.map_cons, List.foldl_cons, ih]
      have : UInt8.ofNat ((c.toNat : Int)).toNat = c := by simp
      rw [this]
      simp [ByteArray.push]
  refine WideShapes.bytes_inj ?_
  have e : (bs (sb s)).map byteOfD = s.data.toList.map fun c => (c.toNat : Int) := by
    simp [bs, sb, byteOfD, Function.comp_def]
  unfold strN strOfI
  rw [e, h1]
  rfl

theorem byt_sb (s : ByteArray) : Byt (sb s) := fun c hc => by
  simp only [sb, List.mem_map] at hc
  obtain ⟨x, _, rfl⟩ := hc
  exact x.toNat_lt
end Go.Proofs.YtdemkhcloholiaaS
