/- Contracts of the search. No condition. -/
import Derived.Test.YtjpoihfadkkneaaCa
namespace Go.Proofs.Ytjpoihfadkkneaa
open Go Go.SE
set_option linter.unusedVariables false
set_option linter.unusedSimpArgs false
set_option maxRecDepth 10000
attribute [local irreducible] Contract
theorem wrapu64 (x : Int) : IntKind.wrap .u64 x = x % 18446744073709551616 := by
  have e1 : (IntKind.u64).bits = 64 := rfl
  have e2 : (IntKind.u64).signed = false := rfl
  simp [IntKind.wrap, e1, e2]
theorem mid {i j : Nat} (h : i + j < 9223372036854775808) : IntKind.wrap .i64 ((IntKind.wrap .u64 (IntKind.wrap .i64 ((i : Int) + (j : Int)))).fdiv (2 ^ min (Int.toNat 1) (IntKind.bits .u64))) = (((i + j) / 2 : Nat) : Int) := by
  have e : (2 : Int) ^ min (Int.toNat 1) (IntKind.bits .u64) = 2 := by decide
  rw [e, wrap64, wrap64, wrapu64, Int.fdiv_eq_ediv_of_nonneg _ (by omega)]
  omega
theorem bumpE {E : Int} {h : Nat} (hm : E = (h : Int)) (hlt : (h : Int) + 1 < 9223372036854775808) : AV.int .i64 (IntKind.wrap .i64 (E + 1)) = .int .i64 ((h + 1 : Nat) : Int) := by rw [hm]; exact bump hlt
def closT (t : Tb) (r : Int) : AV := .fn (.func 56) [] [.ip (encT t) 0, .ip (.int .i32 r) 0]
theorem fnd56 (t : Tb) (r x : Int) (h0 : 0 ≤ x) (h1 : x < t.l.length) : Contract Try.prog 56 [.int .i64 x, .ip (encT t) 0, .ip (.int .i32 r) 0] [] (.bool (decide (r ≤ (t.l.getD x.toNat dR).hi))) [] := by
  refine contract_of_awp mix Try.func56 rfl (by kernel_rfl) ?_
  repeat' ((conv => whnf); first | refine brP_intro (fun _ => ?_) (fun _ => ?_) | refine storeEq rfl ?_ | refine natEq rfl ?_ | refine drawGo (by kernel_rfl) ?_ | refine And.intro ?_ ?_ | fail)
  all_goals first | rfl | assumption
/-- A binary search's answer; the first number: rounds at most. -/
def bs (p : Nat → Bool) : Nat → Nat → Nat → Nat
  | 0, i, _ => i
  | k + 1, i, j => if i < j then (if p ((i + j) / 2) then bs p k i ((i + j) / 2) else bs p k ((i + j) / 2 + 1) j) else i
def hitP (l : List Rg) (r : Int) (i : Nat) : Bool := decide (r ≤ (l.getD i dR).hi)
theorem srch55 (t : Tb) (r : Int) (hb : t.l.length ≤ 2305843009213693952) : Contract Try.prog 55 [.int .i64 t.l.length, closT t r] [] (.int .i64 (bs (hitP t.l r) t.l.length 0 t.l.length)) [] := by
  refine contract_of_awp mix Try.func55 rfl (by kernel_rfl) ?_
  repeat' ((conv => whnf); first | refine brP_intro (fun _ => ?_) (fun _ => ?_) | refine storeEq rfl ?_ | refine natEq rfl ?_ | refine drawGo (by kernel_rfl) ?_ | refine And.intro ?_ ?_ | fail)
  conv => whnf
  refine loop_intro (fun a : Nat × Nat => match a with | (i, j) => mkF 26 [(0, .int .i64 t.l.length), (1, closT t r), (4, .int .i64 0), (5, .int .i64 i), (6, .int .i64 j)] []) (fun a => match a with | (i, j) => i ≤ j ∧ j ≤ t.l.length ∧ ∃ k, j - i ≤ k ∧ bs (hitP t.l r) t.l.length 0 t.l.length = bs (hitP t.l r) k i j) (fun a => match a with | (i, j) => j - i) (0, t.l.length) ⟨Nat.zero_le _, Nat.le_refl _, _, Nat.le_refl _, rfl⟩ (by (refine weak_keep rfl ?_; repeat' (first | exact trivial | refine And.intro rfl ?_ | fail))) ?_
  rintro ⟨i, j⟩ ⟨h1, h2, k, h3, h4⟩ hM
  have hm := mid (i := i) (j := j) (by omega)
  repeat' ((conv => whnf); first | refine brP_intro (fun _ => ?_) (fun _ => ?_) | refine storeEq rfl ?_ | refine natEq rfl ?_ | refine drawGo (by kernel_rfl) ?_ | refine And.intro ?_ ?_ | refine ⟨_, fnd56 t r _ ?_ ?_, rfl, ?_⟩ | fail)
  · decide
  · rw [hm]; omega
  · rw [hm]; (simp only [tt, ft, notT, eqF, Bool.and_eq_true, Bool.or_eq_true, decide_eq_true_eq, beq_iff_eq, wrap64, Int.toNat_natCast, ge_iff_le, gt_iff_lt] at *; omega)
  · rename_i hij hp
    rw [hm] at hp
    simp only [decide_eq_true_eq, Int.toNat_natCast] at hij hp
    repeat' ((conv => whnf); first | refine brP_intro (fun _ => ?_) (fun _ => ?_) | refine storeEq rfl ?_ | refine natEq rfl ?_ | refine drawGo (by kernel_rfl) ?_ | refine And.intro ?_ ?_ | refine next (a := (i, j)) hM ((i + j) / 2 + 1, j) ?_ ?_ ?_ | fail)
    · (refine weak_keep rfl ?_; repeat' (first | exact trivial | refine And.intro rfl ?_ | refine And.intro (bumpE hm (by omega)) ?_ | fail))
    · omega
    · exact h2
    · obtain ⟨k, rfl⟩ : ∃ k', k = k' + 1 := ⟨k - 1, by omega⟩
      refine ⟨k, by omega, ?_⟩
      rw [h4, bs, if_pos (by omega), if_neg (by simpa [hitP] using hp)]
    · show j - ((i + j) / 2 + 1) < j - i
      omega
  · rename_i hij hp
    rw [hm] at hp
    simp only [decide_eq_true_eq, Int.toNat_natCast] at hij hp
    repeat' ((conv => whnf); first | refine brP_intro (fun _ => ?_) (fun _ => ?_) | refine storeEq rfl ?_ | refine natEq rfl ?_ | refine drawGo (by kernel_rfl) ?_ | refine And.intro ?_ ?_ | refine next (a := (i, j)) hM (i, (i + j) / 2) ?_ ?_ ?_ | fail)
    · (refine weak_keep rfl ?_; repeat' (first | exact trivial | refine And.intro rfl ?_ | refine And.intro (congrArg (AV.int .i64) hm) ?_ | fail))
    · omega
    · omega
    · obtain ⟨k, rfl⟩ : ∃ k', k = k' + 1 := ⟨k - 1, by omega⟩
      refine ⟨k, by omega, ?_⟩
      rw [h4, bs, if_pos (by omega), if_pos (by simpa [hitP] using hp)]
    · show (i + j) / 2 - i < j - i
      omega
  · rename_i hij
    have he : i = j := by simp at hij; omega
    rw [h4, he]
    cases k with
    | zero => rfl
    | succ k => rw [bs, if_neg (by omega)]
  all_goals rfl
/-- What the search of the program answers. -/
def fndB (l : List Rg) (r : Int) : Int × Bool :=
  if bs (hitP l r) l.length 0 l.length = l.length then (0, false)
  else if (l.getD (bs (hitP l r) l.length 0 l.length) dR).lo > r then (0, false)
  else ((l.getD (bs (hitP l r) l.length 0 l.length) dR).v, true)
theorem bs_le (p : Nat → Bool) : ∀ (k i j : Nat), i ≤ j → i ≤ bs p k i j ∧ bs p k i j ≤ j
  | 0, i, j, h => ⟨Nat.le_refl _, h⟩
  | k + 1, i, j, h => by
    rw [bs]
    split
    · split
      · have := bs_le p k i ((i + j) / 2) (by omega); omega
      · have := bs_le p k ((i + j) / 2 + 1) j (by omega); omega
    · omega
theorem fnd41 (t : Tb) (r : Int) (hb : t.l.length ≤ 2305843009213693952) : Contract Try.prog 41 [encT t, .int .i32 r] [] (.tup [.int .i64 (fndB t.l r).1, .bool (fndB t.l r).2]) [] := by
  refine contract_of_awp mix Try.func41 rfl (by kernel_rfl) ?_
  have hk := (bs_le (hitP t.l r) t.l.length 0 t.l.length (Nat.zero_le _)).2
  repeat' ((conv => whnf); first | refine brP_intro (fun _ => ?_) (fun _ => ?_) | refine storeEq rfl ?_ | refine natEq rfl ?_ | refine drawGo (by kernel_rfl) ?_ | refine And.intro ?_ ?_ | refine ⟨_, srch55 t r hb, rfl, ?_⟩ | fail)
  all_goals first | rfl | (simp only [tt, ft, notT, eqF, Bool.and_eq_true, Bool.or_eq_true, decide_eq_true_eq, beq_iff_eq, wrap64, Int.toNat_natCast, ge_iff_le, gt_iff_lt] at *; omega) | skip
  all_goals simp only [fndB]
  all_goals simp only [tt, ft, notT, eqF, decide_eq_true_eq, beq_iff_eq, Int.toNat_natCast] at *
  all_goals grind
attribute [irreducible] fndB
end Go.Proofs.Ytjpoihfadkkneaa
