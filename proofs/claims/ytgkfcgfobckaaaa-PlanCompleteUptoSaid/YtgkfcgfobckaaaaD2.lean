
import Derived.Test.YtgkfcgfobckaaaaE2
set_option linter.unusedVariables false
set_option linter.unusedSimpArgs false
namespace Go.Proofs.YtgkfcgfobckaaaaS
open Go Go.Proofs.YtgkfcgfobckaaaaV

variable {G : Heap}
attribute [local irreducible] VN VC VX VQ

@[go_sem] theorem gdV_wn_off (d : D) (want : Bool) : gdV (D.wn false d) want = some false := by
  cases d with
  | when c d => cases d <;> rfl
  | _ => rfl
theorem eval_ok (r : Rw) : ∀ (n : Nat) (p : Pr), SizeOf.sizeOf p ≤ n → p.Lim → VN P G 42 [.agg p.cells, .agg [.sl .none (r.map clD)]] (.int .i64 (evalP r p))
  | 0, p, h, _ => by cases p; simp at h
  | n + 1, p, hn, hL => by
    obtain ⟨_, z3, hk⟩ := hL
    exact eval_step r p z3 fun k hk' => eval_ok r n k (Nat.le_of_lt_succ (Nat.lt_of_lt_of_le (Pr.kid_lt (p := p) hk') hn)) (hk k hk')
def notP (p : Pr) : Pr := .mk 7 0 0 0 [] ByteArray.empty [p]
theorem notP_lim {p : Pr} (h : p.Lim) : (notP p).Lim := .mk _ (by simp [notP, Pr.kids]) fun k hk => by simp [notP, Pr.kids] at hk; subst hk; exact h
theorem possT_not (u : Sm) (p : Pr) : possT u (notP p) = (possT u p).turn := by
  rw [possT_eq]; simp [notP, Pr.op, Pr.kids]
theorem notP_cells (p : Pr) : (notP p).cells = [.int .i64 7, .int .i64 0, .int .i64 0, .int .i64 0, .sl .none [], .str ByteArray.empty, .sl .none [.agg p.cells]] := by
  simp only [notP, Pr.cells, Pr.kids, List.map_cons, List.map_nil, Pr.d_eq]; rfl
end Go.Proofs.YtgkfcgfobckaaaaS
