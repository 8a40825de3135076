/- The reference's line of a rune, and its class. No condition. -/
import Derived.Test.YtjpoihfadkkneaaCg
namespace Go.Proofs.Ytjpoihfadkkneaa
open Go Go.SE
set_option linter.unusedVariables false
set_option linter.unusedSimpArgs false
set_option maxRecDepth 10000
attribute [local irreducible] Contract
def linesR (p : Pr) (r : Int) : List Bool := [!rightB r, (fndR p.ex.l r).2, (fndR p.un.l r).2, ldhB r, (fndR p.jo.l r).2, (fndR p.ol.l r).2, (fndR p.us.l r).2, (fndR p.ig.l r).2, (fndR p.le.l r).2, true]
theorem lines_eq {p : Pr} {r : Int} {X : Bool} (h : X = ldhB r) : [!rightB r, (fndR p.ex.l r).2, (fndR p.un.l r).2, X, (fndR p.jo.l r).2, (fndR p.ol.l r).2, (fndR p.us.l r).2, (fndR p.ig.l r).2, (fndR p.le.l r).2, true] = linesR p r := by rw [h]; rfl
theorem why_lines {p : Pr} {r : Int} {i : Nat} (hi : i ≤ 9) (h : ∀ j, j < i → (linesR p r).getD j false = false) (ht : (linesR p r).getD i false = true) : ((i + 1 : Nat) : Int) = whyG fndR p r := by
  unfold whyG
  have : i = 0 ∨ i = 1 ∨ i = 2 ∨ i = 3 ∨ i = 4 ∨ i = 5 ∨ i = 6 ∨ i = 7 ∨ i = 8 ∨ i = 9 := by omega
  have h0 := h 0
  have h1 := h 1
  have h2 := h 2
  have h3 := h 3
  have h4 := h 4
  have h5 := h 5
  have h6 := h 6
  have h7 := h 7
  have h8 := h 8
  clear h
  rcases this with rfl | rfl | rfl | rfl | rfl | rfl | rfl | rfl | rfl | rfl <;> simp [linesR] at h0 h1 h2 h3 h4 h5 h6 h7 h8 ht <;> simp [*]
/-- One more line that doesn't say it. -/
theorem lines_next {p : Pr} {r : Int} {i : Nat} {L : List Bool} (hL : L = linesR p r) (hi : i ≤ 9 ∧ ∀ j, j < i → (linesR p r).getD j false = false) (h : (!L.getD (i : Int).toNat false) = true) : i + 1 ≤ 9 ∧ ∀ j, j < i + 1 → (linesR p r).getD j false = false := by
  subst hL
  simp only [Int.toNat_natCast, Bool.not_eq_true'] at h
  refine ⟨?_, fun j hj => ?_⟩
  · by_cases e : i = 9
    · subst e; cases h
    · omega
  · by_cases e : j = i
    · subst e; exact h
    · exact hi.2 j (by omega)
theorem lines_end {p : Pr} {r : Int} {i : Nat} {L : List Bool} (hL : L = linesR p r) (hi : i ≤ 9 ∧ ∀ j, j < i → (linesR p r).getD j false = false) (h : (!L.getD (i : Int).toNat false) = false) : AV.int .i64 (IntKind.wrap .i64 ((i : Int) + 1)) = .int .i64 (whyG fndR p r) := by
  subst hL
  simp only [Int.toNat_natCast, Bool.not_eq_false'] at h
  rw [bump (by omega), why_lines hi.1 hi.2 h]
set_option maxHeartbeats 2000000 in
theorem why14 (p : Pr) (r : Int) (hb : fits p) : Contract Try.prog 14 [encP p, .int .i32 r] [] (.int .i64 (whyG fndR p r)) [] := by
  refine contract_of_awp mix Try.func14 rfl (by kernel_rfl) ?_
  obtain ⟨h1, h2, h3, h4, h5, h6, h7, h8, h9, h10, h11⟩ := hb
  repeat' ((conv => whnf); first | refine brP_intro (fun _ => ?_) (fun _ => ?_) | refine storeEq rfl ?_ | refine natEq rfl ?_ | refine drawGo (by kernel_rfl) ?_ | refine And.intro ?_ ?_ | refine ⟨_, right47 r, rfl, ?_⟩ | refine ⟨_, has22 _ r (by assumption), rfl, ?_⟩ | fail)
  all_goals (conv => whnf)
  all_goals refine loop_at 67 (fun i : Nat => [(4, .int .i64 0), (6, .mp 1 0 0), (7, .int .i64 i)]) (fun i => i ≤ 9 ∧ ∀ j, j < i → (linesR p r).getD j false = false) (fun i => 10 - i) 0 ⟨Nat.zero_le _, fun j hj => by omega⟩ ?_ ?_ ?_
  all_goals try rfl
  all_goals try ((repeat' (first | exact trivial | refine And.intro rfl ?_ | fail)); done)
  all_goals intro i hi hM
  all_goals have hi9 := hi.1
  all_goals repeat' ((conv => whnf); first | refine brP_intro (fun _ => ?_) (fun _ => ?_) | refine storeEq rfl ?_ | refine natEq rfl ?_ | refine drawGo (by kernel_rfl) ?_ | refine And.intro ?_ ?_ | refine next (a := i) hM (i + 1) ?_ ?_ ?_ | fail)
  all_goals try exact nilStore
  all_goals try omega
  all_goals try (refine weak_keep rfl ?_; repeat' (first | exact trivial | refine And.intro rfl ?_ | refine And.intro (bump (by omega)) ?_ | fail))
  all_goals rename_i x
  all_goals first | refine lines_end (lines_eq ?_) hi x | refine (lines_next (lines_eq ?_) hi x).1 | refine (lines_next (lines_eq ?_) hi x).2
  all_goals clear x hM hi
  all_goals (refine Bool.eq_iff_iff.2 ?_; simp only [ldhB, tt, ft, notT, eqF, Bool.and_eq_true, Bool.or_eq_true, decide_eq_true_eq, beq_iff_eq, true_iff, false_iff, iff_true, iff_false, not_true_eq_false, not_false_eq_true] at *; omega)
theorem why_range (f : List Rg → Int → Int × Bool) (p : Pr) (r : Int) : whyG f p r = 1 ∨ whyG f p r = 2 ∨ whyG f p r = 3 ∨ whyG f p r = 4 ∨ whyG f p r = 5 ∨ whyG f p r = 6 ∨ whyG f p r = 7 ∨ whyG f p r = 8 ∨ whyG f p r = 9 ∨ whyG f p r = 10 := by
  unfold whyG
  repeat' split
  all_goals simp
theorem why_of {f : List Rg → Int → Int × Bool} {p : Pr} {r : Int} (h : (whyG f p r == 2) = false) : [0, 4, 0, 5, 1, 2, 4, 4, 4, 1, 4].getD (whyG f p r).toNat 0 = ofG f p r := by
  unfold ofG
  have h2 : whyG f p r ≠ 2 := by simpa using h
  rcases why_range f p r with e | e | e | e | e | e | e | e | e | e <;> rw [e] at h2 ⊢ <;> first | rfl | exact absurd rfl h2
theorem of12 (p : Pr) (r : Int) (hb : fits p) : Contract Try.prog 12 [encP p, .int .i32 r] [] (.int .i64 (ofG fndR p r)) [] := by
  refine contract_of_awp mix Try.func12 rfl (by kernel_rfl) ?_
  have hf := Nat.le_trans hb.1 (show 2305843009213693952 ≤ 4611686018427387904 by decide)
  repeat' ((conv => whnf); first | refine brP_intro (fun _ => ?_) (fun _ => ?_) | refine storeEq rfl ?_ | refine natEq rfl ?_ | refine drawGo (by kernel_rfl) ?_ | refine And.intro ?_ ?_ | refine ⟨_, why14 p r hb, rfl, ?_⟩ | refine ⟨_, fnd42 p.ex r hf, rfl, ?_⟩ | fail)
  all_goals try exact nilStore
  · rename_i h
    have h2 : whyG fndR p r = 2 := by simpa using h
    rw [ofG, if_pos h2]
  · have := why_range fndR p r
    omega
  · have := why_range fndR p r
    omega
  · have := why_range fndR p r
    show whyG fndR p r < 11
    omega
  · rename_i h
    exact congrArg (AV.int .i64) (why_of h)
theorem why_same {p : Pr} (h : (chkP p).2 = 0) (r : Int) : whyG fndB p r = whyG fndR p r := by
  obtain ⟨e1, e2, e3, e4, e5, e6, e7, _⟩ := right_ok h r
  unfold whyG
  rw [e1, e2, e3, e4, e5, e6, e7]
theorem of_same {p : Pr} (h : (chkP p).2 = 0) (r : Int) : ofG fndB p r = ofG fndR p r := by
  unfold ofG
  rw [why_same h r, (right_ok h r).1]
attribute [local irreducible] ofG
/-- A rune's class, by a law. -/
theorem of3 (p : Pr) (r : Int) : Contract Try.prog 3 [encP p, .int .i32 r] [] (.bool true) [] := by
  have c9 := gr9 p
  have c10 := ri10 p
  cases hg : greatB p with
  | true =>
    rw [hg] at c9
    refine contract_of_awp mix Try.func3 rfl (by kernel_rfl) ?_
    repeat' ((conv => whnf); first | refine brP_intro (fun _ => ?_) (fun _ => ?_) | refine storeEq rfl ?_ | refine natEq rfl ?_ | refine drawGo (by kernel_rfl) ?_ | refine And.intro ?_ ?_ | refine ⟨_, aw8, rfl, ?_⟩ | refine ⟨_, c9, rfl, ?_⟩ | fail)
    all_goals first | exact nilStore | rfl
  | false =>
  have hb := small_fits hg
  rw [hg] at c9
  by_cases hr : (chkP p).2 = 0
  · have c11 := of11 p r hb
    have c13 := why13 p r hb
    rw [of_same hr] at c11
    rw [why_same hr] at c13
    rw [show decide ((chkP p).2 = 0) = true from decide_eq_true hr] at c10
    refine contract_of_awp mix Try.func3 rfl (by kernel_rfl) ?_
    repeat' ((conv => whnf); first | refine brP_intro (fun _ => ?_) (fun _ => ?_) | refine storeEq rfl ?_ | refine natEq rfl ?_ | refine drawGo (by kernel_rfl) ?_ | refine And.intro ?_ ?_ | refine ⟨_, aw8, rfl, ?_⟩ | refine ⟨_, c9, rfl, ?_⟩ | refine ⟨_, c10, rfl, ?_⟩ | refine ⟨_, c11, rfl, ?_⟩ | refine ⟨_, of12 p r hb, rfl, ?_⟩ | refine ⟨_, c13, rfl, ?_⟩ | refine ⟨_, why14 p r hb, rfl, ?_⟩ | fail)
    all_goals first | exact nilStore | rfl | simp_all
  · rw [show decide ((chkP p).2 = 0) = false from decide_eq_false hr] at c10
    refine contract_of_awp mix Try.func3 rfl (by kernel_rfl) ?_
    repeat' ((conv => whnf); first | refine brP_intro (fun _ => ?_) (fun _ => ?_) | refine storeEq rfl ?_ | refine natEq rfl ?_ | refine drawGo (by kernel_rfl) ?_ | refine And.intro ?_ ?_ | refine ⟨_, aw8, rfl, ?_⟩ | refine ⟨_, c9, rfl, ?_⟩ | refine ⟨_, c10, rfl, ?_⟩ | fail)
    all_goals first | exact nilStore | rfl
end Go.Proofs.Ytjpoihfadkkneaa
