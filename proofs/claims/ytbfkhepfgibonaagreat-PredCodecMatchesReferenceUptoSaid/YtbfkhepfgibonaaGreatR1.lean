/-
  Rows of values that lie in a variable's cells.
-/
import Derived.Test.YtbfkhepfgibonaaGreatQ4
set_option linter.unusedVariables false
set_option linter.unusedSimpArgs false
namespace Go.Proofs.YtbfkhepfgibonaaGreatS
open Go Go.Proofs.YtbfkhepfgibonaaGreatV

variable {G : Heap}

/-- The cells of a row of values. -/
def vflat (f : List Vl) : List D := flat (f.map Vl.d)
theorem vflat_nil : vflat [] = [] := rfl
theorem vflat_cons (v : Vl) (f : List Vl) : vflat (v :: f) = v.cells ++ vflat f := rfl
theorem vflat_append (f g : List Vl) : vflat (f ++ g) = vflat f ++ vflat g := by simp [vflat, flat_append]
theorem vflat_length : ∀ f : List Vl, (vflat f).length = f.length * 3
  | [] => rfl
  | v :: f => by rw [vflat_cons, List.length_append, vflat_length f]; simp [Vl.cells]; omega
theorem vflat_drop (f : List Vl) (k : Nat) (h : k ≤ f.length) : (vflat f).drop (k * 3) = vflat (f.drop k) := by
  have e : vflat f = vflat (f.take k) ++ vflat (f.drop k) := by rw [← vflat_append, List.take_append_drop]
  have l : (vflat (f.take k)).length = k * 3 := by rw [vflat_length, List.length_take]; congr 1; omega
  rw [e, ← l, List.drop_left]
theorem vflat_take (f : List Vl) (k : Nat) (h : k ≤ f.length) : (vflat f).take (k * 3) = vflat (f.take k) := by
  have e : vflat f = vflat (f.take k) ++ vflat (f.drop k) := by rw [← vflat_append, List.take_append_drop]
  have l : (vflat (f.take k)).length = k * 3 := by rw [vflat_length, List.length_take]; congr 1; omega
  rw [e, ← l, List.take_left]
theorem vflat_one {f : List Vl} : ∀ d ∈ vflat f, d.one = true := by
  intro d hd
  simp only [vflat, flat, List.mem_flatMap, List.mem_map] at hd
  obtain ⟨x, ⟨v, _, rfl⟩, hx⟩ := hd
  simp only [Vl.d, Vl.cells, D.cells, List.mem_cons, List.not_mem_nil, or_false] at hx
  rcases hx with rfl | rfl | rfl <;> rfl
theorem vflat_obj (f : List Vl) : isObj (vflat f) = false := by
  cases f with
  | nil => rfl
  | cons v f => rfl
theorem vflat_at {f : List Vl} {k : Nat} {v : Vl} (h : f[k]? = some v) : ((vflat f).drop (k * 3)).take 3 = [.bool v.null, .int .i64 v.n, .str v.s] := by
  have hk := (List.getElem?_eq_some_iff.1 h).1
  rw [vflat_drop f k (by omega)]
  have e : f.drop k = v :: f.drop (k + 1) := by
    rw [List.drop_eq_getElem_cons hk]
    congr 1
    rw [List.getElem?_eq_getElem hk] at h
    exact Option.some.inj h
  rw [e, vflat_cons]
  rfl
theorem els_vflat : ∀ (n : Nat) (f : List Vl), n ≤ f.length → els 3 n (vflat f) = (f.take n).map Vl.d
  | 0, f, _ => by simp [els]
  | n + 1, [], h => by simp at h
  | n + 1, v :: f, h => by
    simp only [els, vflat_cons, List.take_succ_cons, List.map_cons]
    have e1 : ((v.cells ++ vflat f).take 3).map D.er1 = v.cells := by
      rw [List.take_append_of_le_length (by simp [Vl.cells]), show v.cells.take 3 = v.cells from rfl]
      rfl
    have e2 : (v.cells ++ vflat f).drop 3 = vflat f := by
      rw [show (3 : Nat) = v.cells.length from rfl, List.drop_left]
    rw [e1, e2, els_vflat n f (by simpa using h)]
    rfl
theorem zeros_vflat (c : Nat) : zeros [.bool false, .int .i64 0, .str ByteArray.empty] c = vflat (List.replicate c ⟨false, 0, ByteArray.empty⟩) := by
  induction c with
  | zero => rfl
  | succ c ih =>
    rw [List.replicate_succ, vflat_cons, ← ih]
    simp [zeros, List.replicate_succ, Vl.cells]
theorem splice_vflat {f g : List Vl} {k : Nat} (h : k + g.length ≤ f.length) : splice (vflat f) (k * 3) (vflat g) = vflat (f.take k ++ g ++ f.drop (k + g.length)) := by
  unfold splice
  rw [vflat_take f k (by omega), vflat_length, ← Nat.add_mul, vflat_drop f _ h, vflat_append, vflat_append]
theorem vl_er (l : List Vl) : (l.map Vl.d).map D.er = l.map Vl.d := by
  rw [List.map_map]; exact List.map_congr_left fun b _ => rfl
theorem vl_cells (l : List Vl) : ∀ x ∈ l.map Vl.d, x.cells.length = 3 ∧ x.solid = true := fun x hx => by
  obtain ⟨y, _, rfl⟩ := List.mem_map.1 hx; exact ⟨rfl, rfl⟩

/-- A row of values that lies in a variable's cells. -/
def BoxV (β : Heap) (d : D) (n : Nat) : Prop := ∃ (b : Nat) (f : List Vl), d = .so b 0 n f.length ∧ β b = some (vflat f) ∧ n ≤ f.length
def OutV (β : Heap) (d : D) (n : Nat) : Prop := (d = .sl .full [] ∧ n = 0) ∨ BoxV β d n
theorem BoxV.keep {β : Heap} {d : D} {n : Nat} (h : BoxV β d n) {b' : Nat} {cs : List D} (hb : β b' = none) : BoxV (β.set b' cs) d n := by
  obtain ⟨b, f, h1, h2, h3⟩ := h
  refine ⟨b, f, h1, ?_, h3⟩
  have : b ≠ b' := fun e => by rw [e, hb] at h2; cases h2
  simp only [Heap.set, if_neg this]
  exact h2
theorem OutV.keep {β : Heap} {d : D} {n : Nat} (h : OutV β d n) {b' : Nat} {cs : List D} (hb : β b' = none) : OutV (β.set b' cs) d n := h.imp id fun h => h.keep hb

theorem bapV {P : Program} {t u : TypeId} {by_ : Nat} {β : Heap} {x y : D} {ok : Prop} {new : Bool} {k : D → Heap → Prop} {n : Nat} {R : List Vl} (hel : elt P t = some (3, by_)) (hz : zel P t = some ([.bool false, .int .i64 0, .str ByteArray.empty], by_)) (h0 : 0 < by_) (hby : by_ ≤ 1024)
    (hok : ok) (hx : (x = .sl .full [] ∧ n = 0 ∧ new = true ∧ 0 < R.length) ∨ ∃ b f off, x = .so b off n f.length ∧ off = 0 ∧ β b = some (vflat f) ∧ n ≤ f.length)
    (hy : srcOf P β 3 u y = (R.map Vl.d, True)) (hn : n + R.length ≤ 1048576) (hk : ∀ d β', BoxV β' d (n + R.length) → k d β') : bapK P t u x y ok new β k := by
  have hmul : (n + R.length) * by_ ≤ 140737488355328 := Nat.le_trans (Nat.mul_le_mul hn hby) (by omega)
  have hfl : flat (R.map Vl.d) = vflat R := rfl
  rw [bapK_at hel hz]
  refine ⟨hok, h0, by simp, by rw [hy]; trivial, ?_⟩
  rw [hy]
  rcases hx with ⟨rfl, rfl, rfl, hR⟩ | ⟨b, f, off, rfl, rfl, hb, hf⟩
  · refine ⟨rfl, by simp, by simpa using hmul, fun h => absurd h (by rw [List.length_map]; omega), fun _ cap' hc b' hb' => ?_⟩
    simp only [List.length_nil, List.length_map] at hc ⊢
    refine hk _ _ ⟨b', R ++ List.replicate (cap' - (0 + R.length)) ⟨false, 0, ByteArray.empty⟩, ?_, ?_, by simp⟩
    · congr 1; simp; omega
    · simp only [Heap.set, if_true, hfl]
      rw [zeros_vflat, vflat_append]
      rfl
  · simp only [bapR, hb, List.length_map]
    refine ⟨vflat_obj f, by rw [vflat_length]; omega, hf, hmul, fun hr => ?_, fun hr cap' hc b' hb' => ?_⟩
    · refine hk _ _ ⟨b, f.take n ++ R ++ f.drop (n + R.length), ?_, ?_, by simp; omega⟩
      · congr 1; simp; omega
      · simp only [Heap.set, if_true, hfl, Nat.zero_add]
        rw [splice_vflat hr]
    · refine hk _ _ ⟨b', f.take n ++ R ++ List.replicate (cap' - (n + R.length)) ⟨false, 0, ByteArray.empty⟩, ?_, ?_, by simp; omega⟩
      · congr 1; simp; omega
      · simp only [Heap.set, if_true, hfl, List.drop_zero]
        rw [zeros_vflat, vflat_take f n hf, vflat_append, vflat_append]
theorem eltV : elt P 22 = some (3, 32) := by kernel_rfl
theorem zelV : zel P 22 = some ([.bool false, .int .i64 0, .str ByteArray.empty], 32) := by kernel_rfl
theorem cutV : cutk P 22 = some (1, 3, 0) := by kernel_rfl
theorem srcV {β : Heap} (tk : Tk) (R : List Vl) : srcOf P β 3 22 (.sl tk (R.map Vl.d)) = (R.map Vl.d, True) := by
  rw [srcOf_sl]
  simp only [vsrc, cutV, vl_er]
  rw [show (∀ d ∈ R.map Vl.d, d.cells.length = 3 ∧ d.solid = true) = True from eq_true (vl_cells R)]
theorem srcB {β : Heap} {b n k : Nat} {f : List Vl} (hb : β b = some (vflat f)) (hk : k ≤ n) (hn : n ≤ f.length) : srcOf P β 3 22 (.so b (if f.length = k then 0 else 0 + k * 3) (n - k) (f.length - k)) = (((f.drop k).take (n - k)).map Vl.d, True) := by
  rw [srcOf_so cutV hb]
  refine Prod.ext ?_ ?_
  · dsimp only
    by_cases g : f.length = k
    · rw [if_pos g, show n - k = 0 by omega]; rfl
    · rw [if_neg g, Nat.zero_add, vflat_drop f k (by omega), els_vflat _ _ (by simp; omega)]
  · refine eq_true ⟨vflat_obj f, ?_, vflat_one⟩
    rw [vflat_length]
    by_cases g : f.length = k
    · rw [if_pos g]; omega
    · rw [if_neg g]; omega
theorem vflat_set {f : List Vl} {k : Nat} {v : Vl} {s : ByteArray} (h : f[k]? = some v) : splice (vflat f) (k * 3 + 2) [.str s] = vflat (f.set k ⟨v.null, v.n, s⟩) := by
  have hk := (List.getElem?_eq_some_iff.1 h).1
  have e : f = f.take k ++ v :: f.drop (k + 1) := by
    rw [← drop_at h, List.take_append_drop]
  have e2 : f.set k ⟨v.null, v.n, s⟩ = f.take k ++ ⟨v.null, v.n, s⟩ :: f.drop (k + 1) := by
    rw [List.set_eq_take_append_cons_drop, if_pos hk]
  have l : (vflat (f.take k)).length = k * 3 := by rw [vflat_length, List.length_take]; congr 1; omega
  have e3 : vflat f = vflat (f.take k) ++ (.bool v.null :: .int .i64 v.n :: .str v.s :: vflat (f.drop (k + 1))) := by
    conv => lhs; rw [e]
    rw [vflat_append, vflat_cons]; rfl
  rw [e2, vflat_append, vflat_cons, e3]
  generalize vflat (f.take k) = A at l
  generalize vflat (f.drop (k + 1)) = B
  unfold splice
  rw [List.take_append, List.take_of_length_le (by omega), List.drop_append, List.drop_of_length_le (by simp; omega), show k * 3 + 2 - A.length = 2 by omega, show k * 3 + 2 + [D.str s].length - A.length = 3 by simp; omega]
  simp [Vl.cells]
theorem bapV0 {P : Program} {t u : TypeId} {by_ : Nat} {β : Heap} {y : D} {ok : Prop} {k : D → Heap → Prop} (hel : elt P t = some (3, by_)) (hz : zel P t = some ([.bool false, .int .i64 0, .str ByteArray.empty], by_)) (h0 : 0 < by_)
    (hok : ok) (hy : srcOf P β 3 u y = ([], True)) (hk : k (.sl .full []) β) : bapK P t u (.sl .full []) y ok true β k := by
  rw [bapK_at hel hz]
  refine ⟨hok, h0, by simp, by rw [hy]; trivial, ?_⟩
  rw [hy]
  exact ⟨rfl, by simp, by simp, fun _ => hk, fun h => absurd h (by simp)⟩
end Go.Proofs.YtbfkhepfgibonaaGreatS
