/- Contracts of the leaf functions of the classes, and what they compute. No condition. -/
import Derived.Test.YtjpoihfadkkneaaSe18
import Derived.Test.YtjpoihfadkkneaaProg
import Derived.KernelRfl
namespace Go.Proofs.Ytjpoihfadkkneaa
open Go Go.SE
set_option linter.unusedVariables false
set_option linter.unusedSimpArgs false
set_option maxRecDepth 10000
attribute [local irreducible] Contract

theorem mix : Try.prog.follows .mixedOrders = true := by kernel_rfl
theorem wrap64 (x : Int) : IntKind.wrap .i64 x = (x + 9223372036854775808) % 18446744073709551616 - 9223372036854775808 := by
  have e1 : (IntKind.i64).bits = 64 := rfl
  have e2 : (IntKind.i64).signed = true := rfl
  simp only [IntKind.wrap, e1, e2, Bool.true_and, decide_eq_true_eq]
  split <;> omega
theorem tt : (true = true) = True := by simp
theorem ft : (false = true) = False := by simp
theorem tf : (true = false) = False := by simp
theorem notT (b : Bool) : ((!b) = true) = (¬ b = true) := by simp
theorem eqF (b : Bool) : (b = false) = (¬ b = true) := by simp
theorem bump {i : Nat} (h : (i : Int) + 1 < 9223372036854775808) : AV.int .i64 (IntKind.wrap .i64 ((i : Int) + 1)) = .int .i64 ((i + 1 : Nat) : Int) := by
  rw [wrap64, show ((i : Int) + 1 + 9223372036854775808) % 18446744073709551616 - 9223372036854775808 = ((i + 1 : Nat) : Int) by omega]
theorem dec {i : Nat} (h0 : 0 < i) (h : i ≤ 4611686018427387904) : (IntKind.wrap .i64 ((i : Int) - 1)).toNat = i - 1 := by
  rw [wrap64]; omega
structure Rg where
  lo : Int
  hi : Int
  v : Int
def dR : Rg := ⟨0, 0, 0⟩
def encR (x : Rg) : AV := .agg [.int .i32 x.lo, .int .i32 x.hi, .int .i64 x.v]
structure Tb where
  nl : Option Bool
  l : List Rg
def encT (t : Tb) : AV := .sl t.nl t.l.length fun i => encR (t.l.getD i dR)

def mayB (x : Rg) : Bool := decide (x.lo ≥ 0) && decide (x.lo ≤ x.hi) && decide (x.hi ≤ 1114111) && decide (x.v ≥ 0) && decide (x.v ≤ 999999)
theorem may (x : Rg) : Contract Try.prog 59 [encR x] [] (.bool (mayB x)) [] := by
  refine contract_of_awp mix Try.func59 rfl (by kernel_rfl) ?_
  repeat' ((conv => whnf); first | refine brP_intro (fun _ => ?_) (fun _ => ?_) | refine storeEq rfl ?_ | refine natEq rfl ?_ | refine drawGo (by kernel_rfl) ?_ | refine And.intro ?_ ?_ | fail)
  all_goals first | rfl | (refine congrArg AV.bool (Bool.eq_iff_iff.2 ?_); simp only [mayB, tt, ft, notT, eqF, Bool.and_eq_true, Bool.or_eq_true, decide_eq_true_eq, beq_iff_eq, true_iff, false_iff, iff_true, iff_false, not_true_eq_false, not_false_eq_true] at *; omega)
def rightB (r : Int) : Bool := decide (r ≥ 0) && decide (r ≤ 1114111) && (decide (r < 55296) || decide (r > 57343))
theorem right45 (r : Int) : Contract Try.prog 45 [.int .i32 r] [] (.bool (rightB r)) [] := by
  refine contract_of_awp mix Try.func45 rfl (by kernel_rfl) ?_
  repeat' ((conv => whnf); first | refine brP_intro (fun _ => ?_) (fun _ => ?_) | refine storeEq rfl ?_ | refine natEq rfl ?_ | refine drawGo (by kernel_rfl) ?_ | refine And.intro ?_ ?_ | fail)
  all_goals first | rfl | (refine congrArg AV.bool (Bool.eq_iff_iff.2 ?_); simp only [rightB, tt, ft, notT, eqF, Bool.and_eq_true, Bool.or_eq_true, decide_eq_true_eq, beq_iff_eq, true_iff, false_iff, iff_true, iff_false, not_true_eq_false, not_false_eq_true] at *; omega)
theorem right47 (r : Int) : Contract Try.prog 47 [.int .i32 r] [] (.bool (rightB r)) [] := by
  refine contract_of_awp mix Try.func47 rfl (by kernel_rfl) ?_
  repeat' ((conv => whnf); first | refine brP_intro (fun _ => ?_) (fun _ => ?_) | refine storeEq rfl ?_ | refine natEq rfl ?_ | refine drawGo (by kernel_rfl) ?_ | refine And.intro ?_ ?_ | fail)
  all_goals first | rfl | (refine congrArg AV.bool (Bool.eq_iff_iff.2 ?_); simp only [rightB, tt, ft, notT, eqF, Bool.and_eq_true, Bool.or_eq_true, decide_eq_true_eq, beq_iff_eq, true_iff, false_iff, iff_true, iff_false, not_true_eq_false, not_false_eq_true] at *; omega)
def ldhB (r : Int) : Bool := decide (r ≥ 97) && decide (r ≤ 122) || decide (r ≥ 48) && decide (r ≤ 57) || (r == 45)
theorem ldh46 (r : Int) : Contract Try.prog 46 [.int .i32 r] [] (.bool (ldhB r)) [] := by
  refine contract_of_awp mix Try.func46 rfl (by kernel_rfl) ?_
  repeat' ((conv => whnf); first | refine brP_intro (fun _ => ?_) (fun _ => ?_) | refine storeEq rfl ?_ | refine natEq rfl ?_ | refine drawGo (by kernel_rfl) ?_ | refine And.intro ?_ ?_ | fail)
  all_goals first | rfl | (refine congrArg AV.bool (Bool.eq_iff_iff.2 ?_); simp only [ldhB, tt, ft, notT, eqF, Bool.and_eq_true, Bool.or_eq_true, decide_eq_true_eq, beq_iff_eq, true_iff, false_iff, iff_true, iff_false, not_true_eq_false, not_false_eq_true] at *; omega)
/-- The first fault of a table from place i on. -/
def chkFrom (l : List Rg) : Nat → Nat → Int × Int
  | _, 0 => (0, 0)
  | i, k + 1 => if mayB (l.getD i dR) = false then (i, 4) else if 0 < i ∧ (l.getD i dR).lo ≤ (l.getD (i - 1) dR).hi then (i, 6) else chkFrom l (i + 1) k
def chkR (l : List Rg) : Int × Int := if 2000 < l.length then (0, 18) else chkFrom l 0 l.length
theorem chk_step {l : List Rg} {i : Nat} (h : i < l.length) : chkFrom l i (l.length - i) = if mayB (l.getD i dR) = false then ((i : Int), 4) else if 0 < i ∧ (l.getD i dR).lo ≤ (l.getD (i - 1) dR).hi then ((i : Int), 6) else chkFrom l (i + 1) (l.length - (i + 1)) := by
  rw [show l.length - i = (l.length - (i + 1)) + 1 by omega, chkFrom]
theorem chk54 (t : Tb) : Contract Try.prog 54 [encT t] [] (.tup [.int .i64 (chkR t.l).1, .int .i64 (chkR t.l).2]) [] := by
  refine contract_of_awp mix Try.func54 rfl (by kernel_rfl) ?_
  repeat' ((conv => whnf); first | refine brP_intro (fun _ => ?_) (fun _ => ?_) | refine storeEq rfl ?_ | refine natEq rfl ?_ | refine drawGo (by kernel_rfl) ?_ | refine And.intro ?_ ?_ | fail)
  · have h : 2000 < t.l.length := by simp_all; omega
    rw [chkR, if_pos h]
  · rfl
  rename_i hle
  have hle : ¬ 2000 < t.l.length := by simp at hle; omega
  conv => whnf
  refine loop_intro (fun i : Nat => mkF 38 [(0, encT t), (2, .int .i64 0), (3, .int .i64 0), (4, .int .i64 i)] []) (fun i => i ≤ t.l.length ∧ chkFrom t.l 0 t.l.length = chkFrom t.l i (t.l.length - i)) (fun i => t.l.length - i) 0 ⟨Nat.zero_le _, rfl⟩ (by refine weak_keep rfl ?_; exact ⟨rfl, rfl, rfl, rfl, trivial⟩) ?_
  intro i hi hM
  repeat' ((conv => whnf); first | refine brP_intro (fun _ => ?_) (fun _ => ?_) | refine storeEq rfl ?_ | refine natEq rfl ?_ | refine drawGo (by kernel_rfl) ?_ | refine And.intro ?_ ?_ | refine ⟨_, may _, rfl, ?_⟩ | refine next hM (i + 1) ?_ ?_ ?_ | fail)
  all_goals try (simp only [tt, ft, notT, eqF, Bool.and_eq_true, Bool.or_eq_true, decide_eq_true_eq, beq_iff_eq, wrap64, Int.toNat_natCast, ge_iff_le, gt_iff_lt] at *; omega)
  all_goals try rfl
  all_goals try (refine weak_keep rfl ?_; repeat' (first | exact trivial | refine And.intro rfl ?_ | refine And.intro (bump ?_) ?_ | fail))
  all_goals try (simp only [tt, ft, notT, eqF, Bool.and_eq_true, Bool.or_eq_true, decide_eq_true_eq, beq_iff_eq, wrap64, Int.toNat_natCast, ge_iff_le, gt_iff_lt] at *; omega)
  all_goals simp only [chkR, if_neg hle, hi.2]
  all_goals first | rw [chk_step (by (simp only [tt, ft, notT, eqF, Bool.and_eq_true, Bool.or_eq_true, decide_eq_true_eq, beq_iff_eq, wrap64, Int.toNat_natCast, ge_iff_le, gt_iff_lt] at *; omega))] | rw [show t.l.length - i = 0 by (simp only [tt, ft, notT, eqF, Bool.and_eq_true, Bool.or_eq_true, decide_eq_true_eq, beq_iff_eq, wrap64, Int.toNat_natCast, ge_iff_le, gt_iff_lt] at *; omega), chkFrom]
  all_goals try rw [dec (by (simp only [tt, ft, notT, eqF, Bool.and_eq_true, Bool.or_eq_true, decide_eq_true_eq, beq_iff_eq, wrap64, Int.toNat_natCast, ge_iff_le, gt_iff_lt] at *; omega)) (by (simp only [tt, ft, notT, eqF, Bool.and_eq_true, Bool.or_eq_true, decide_eq_true_eq, beq_iff_eq, wrap64, Int.toNat_natCast, ge_iff_le, gt_iff_lt] at *; omega))] at *
  all_goals (clear hM; simp only [tt, ft, notT, eqF, Bool.and_eq_true, Bool.or_eq_true, decide_eq_true_eq, Int.toNat_natCast, ge_iff_le, gt_iff_lt] at *; grind [])
/-- The first range from place i on that has a rune. -/
def fndFrom (l : List Rg) (r : Int) : Nat → Nat → Int × Bool
  | _, 0 => (0, false)
  | i, k + 1 => if (l.getD i dR).lo ≤ r ∧ r ≤ (l.getD i dR).hi then ((l.getD i dR).v, true) else fndFrom l r (i + 1) k
def fndR (l : List Rg) (r : Int) : Int × Bool := fndFrom l r 0 l.length
theorem fnd_step {l : List Rg} {r : Int} {i : Nat} (h : i < l.length) : fndFrom l r i (l.length - i) = if (l.getD i dR).lo ≤ r ∧ r ≤ (l.getD i dR).hi then ((l.getD i dR).v, true) else fndFrom l r (i + 1) (l.length - (i + 1)) := by
  rw [show l.length - i = (l.length - (i + 1)) + 1 by omega, fndFrom]
theorem fnd42 (t : Tb) (r : Int) (hb : t.l.length ≤ 4611686018427387904) : Contract Try.prog 42 [encT t, .int .i32 r] [] (.tup [.int .i64 (fndR t.l r).1, .bool (fndR t.l r).2]) [] := by
  refine contract_of_awp mix Try.func42 rfl (by kernel_rfl) ?_
  repeat' ((conv => whnf); first | refine brP_intro (fun _ => ?_) (fun _ => ?_) | refine storeEq rfl ?_ | refine natEq rfl ?_ | refine drawGo (by kernel_rfl) ?_ | refine And.intro ?_ ?_ | fail)
  conv => whnf
  refine loop_intro (fun i : Nat => mkF 34 [(0, encT t), (1, .int .i32 r), (4, .int .i64 0), (5, .bool false), (6, .int .i64 i)] []) (fun i => i ≤ t.l.length ∧ fndFrom t.l r 0 t.l.length = fndFrom t.l r i (t.l.length - i)) (fun i => t.l.length - i) 0 ⟨Nat.zero_le _, rfl⟩ (by (refine weak_keep rfl ?_; repeat' (first | exact trivial | refine And.intro rfl ?_ | fail))) ?_
  intro i hi hM
  repeat' ((conv => whnf); first | refine brP_intro (fun _ => ?_) (fun _ => ?_) | refine storeEq rfl ?_ | refine natEq rfl ?_ | refine drawGo (by kernel_rfl) ?_ | refine And.intro ?_ ?_ | refine next hM (i + 1) ?_ ?_ ?_ | fail)
  all_goals try (simp only [tt, ft, notT, eqF, Bool.and_eq_true, Bool.or_eq_true, decide_eq_true_eq, beq_iff_eq, wrap64, Int.toNat_natCast, ge_iff_le, gt_iff_lt] at *; omega)
  all_goals try rfl
  all_goals try (refine weak_keep rfl ?_; repeat' (first | exact trivial | refine And.intro rfl ?_ | refine And.intro (bump ?_) ?_ | fail))
  all_goals try (simp only [tt, ft, notT, eqF, Bool.and_eq_true, Bool.or_eq_true, decide_eq_true_eq, beq_iff_eq, wrap64, Int.toNat_natCast, ge_iff_le, gt_iff_lt] at *; omega)
  all_goals simp only [fndR, hi.2]
  all_goals first | rw [fnd_step (by (simp only [tt, ft, notT, eqF, Bool.and_eq_true, Bool.or_eq_true, decide_eq_true_eq, beq_iff_eq, wrap64, Int.toNat_natCast, ge_iff_le, gt_iff_lt] at *; omega))] | rw [show t.l.length - i = 0 by (simp only [tt, ft, notT, eqF, Bool.and_eq_true, Bool.or_eq_true, decide_eq_true_eq, beq_iff_eq, wrap64, Int.toNat_natCast, ge_iff_le, gt_iff_lt] at *; omega), fndFrom]
  all_goals (clear hM; simp only [tt, ft, notT, eqF, Bool.and_eq_true, Bool.or_eq_true, decide_eq_true_eq, Int.toNat_natCast, ge_iff_le, gt_iff_lt] at *; grind [])
attribute [irreducible] rightB ldhB mayB chkR fndR
end Go.Proofs.Ytjpoihfadkkneaa
