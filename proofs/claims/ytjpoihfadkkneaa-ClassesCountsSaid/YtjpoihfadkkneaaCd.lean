/- Contracts of what is told of a rune, of the tables and of their check. No condition. -/
import Derived.Test.YtjpoihfadkkneaaCc
namespace Go.Proofs.Ytjpoihfadkkneaa
open Go Go.SE
set_option linter.unusedVariables false
set_option linter.unusedSimpArgs false
set_option maxRecDepth 10000
attribute [local irreducible] Contract
theorem jn15 (p : Pr) (r : Int) (hb : fits p) : Contract Try.prog 15 [encP p, .int .i32 r] [] (.int .i64 (fndB p.jn.l r).1) [] := by
  refine contract_of_awp mix Try.func15 rfl (by kernel_rfl) ?_
  have h := hb.2.2.2.2.2.2.2.1
  repeat' ((conv => whnf); first | refine brP_intro (fun _ => ?_) (fun _ => ?_) | refine storeEq rfl ?_ | refine natEq rfl ?_ | refine drawGo (by kernel_rfl) ?_ | refine And.intro ?_ ?_ | refine ⟨_, fnd41 p.jn r h, rfl, ?_⟩ | fail)
  all_goals rfl
theorem jn16 (p : Pr) (r : Int) (hb : fits p) : Contract Try.prog 16 [encP p, .int .i32 r] [] (.int .i64 (fndR p.jn.l r).1) [] := by
  refine contract_of_awp mix Try.func16 rfl (by kernel_rfl) ?_
  have h := Nat.le_trans hb.2.2.2.2.2.2.2.1 (show 2305843009213693952 ≤ 4611686018427387904 by decide)
  repeat' ((conv => whnf); first | refine brP_intro (fun _ => ?_) (fun _ => ?_) | refine storeEq rfl ?_ | refine natEq rfl ?_ | refine drawGo (by kernel_rfl) ?_ | refine And.intro ?_ ?_ | refine ⟨_, fnd42 p.jn r h, rfl, ?_⟩ | fail)
  all_goals rfl
theorem sc17 (p : Pr) (r : Int) (hb : fits p) : Contract Try.prog 17 [encP p, .int .i32 r] [] (.int .i64 (fndB p.sc.l r).1) [] := by
  refine contract_of_awp mix Try.func17 rfl (by kernel_rfl) ?_
  have h := hb.2.2.2.2.2.2.2.2.1
  repeat' ((conv => whnf); first | refine brP_intro (fun _ => ?_) (fun _ => ?_) | refine storeEq rfl ?_ | refine natEq rfl ?_ | refine drawGo (by kernel_rfl) ?_ | refine And.intro ?_ ?_ | refine ⟨_, fnd41 p.sc r h, rfl, ?_⟩ | fail)
  all_goals rfl
theorem sc18 (p : Pr) (r : Int) (hb : fits p) : Contract Try.prog 18 [encP p, .int .i32 r] [] (.int .i64 (fndR p.sc.l r).1) [] := by
  refine contract_of_awp mix Try.func18 rfl (by kernel_rfl) ?_
  have h := Nat.le_trans hb.2.2.2.2.2.2.2.2.1 (show 2305843009213693952 ≤ 4611686018427387904 by decide)
  repeat' ((conv => whnf); first | refine brP_intro (fun _ => ?_) (fun _ => ?_) | refine storeEq rfl ?_ | refine natEq rfl ?_ | refine drawGo (by kernel_rfl) ?_ | refine And.intro ?_ ?_ | refine ⟨_, fnd42 p.sc r h, rfl, ?_⟩ | fail)
  all_goals rfl
def dirG (x : Int × Bool) : Int := if x.2 then x.1 else 1
theorem di19 (p : Pr) (r : Int) (hb : fits p) : Contract Try.prog 19 [encP p, .int .i32 r] [] (.int .i64 (dirG (fndB p.di.l r))) [] := by
  refine contract_of_awp mix Try.func19 rfl (by kernel_rfl) ?_
  have h := hb.2.2.2.2.2.2.2.2.2.1
  repeat' ((conv => whnf); first | refine brP_intro (fun _ => ?_) (fun _ => ?_) | refine storeEq rfl ?_ | refine natEq rfl ?_ | refine drawGo (by kernel_rfl) ?_ | refine And.intro ?_ ?_ | refine ⟨_, fnd41 p.di r h, rfl, ?_⟩ | fail)
  all_goals first | exact nilStore | simp_all [dirG]
theorem di20 (p : Pr) (r : Int) (hb : fits p) : Contract Try.prog 20 [encP p, .int .i32 r] [] (.int .i64 (dirG (fndR p.di.l r))) [] := by
  refine contract_of_awp mix Try.func20 rfl (by kernel_rfl) ?_
  have h := Nat.le_trans hb.2.2.2.2.2.2.2.2.2.1 (show 2305843009213693952 ≤ 4611686018427387904 by decide)
  repeat' ((conv => whnf); first | refine brP_intro (fun _ => ?_) (fun _ => ?_) | refine storeEq rfl ?_ | refine natEq rfl ?_ | refine drawGo (by kernel_rfl) ?_ | refine And.intro ?_ ?_ | refine ⟨_, fnd42 p.di r h, rfl, ?_⟩ | fail)
  all_goals first | exact nilStore | simp_all [dirG]
theorem ma21 (p : Pr) (r : Int) (hb : fits p) : Contract Try.prog 21 [encP p, .int .i32 r] [] (.bool (fndB p.ma.l r).2) [] := by
  refine contract_of_awp mix Try.func21 rfl (by kernel_rfl) ?_
  have h := hb.2.2.2.2.2.2.2.2.2.2
  repeat' ((conv => whnf); first | refine brP_intro (fun _ => ?_) (fun _ => ?_) | refine storeEq rfl ?_ | refine natEq rfl ?_ | refine drawGo (by kernel_rfl) ?_ | refine And.intro ?_ ?_ | refine ⟨_, in44 p.ma r h, rfl, ?_⟩ | fail)
  all_goals rfl
theorem tb39 (p : Pr) : Contract Try.prog 39 [encP p] [] (encP p) [] := by
  refine contract_of_awp mix Try.func39 rfl (by kernel_rfl) ?_
  repeat' ((conv => whnf); first | refine brP_intro (fun _ => ?_) (fun _ => ?_) | refine storeEq rfl ?_ | refine natEq rfl ?_ | refine drawGo (by kernel_rfl) ?_ | refine And.intro ?_ ?_ | fail)
  all_goals rfl
def lenAt (p : Pr) (k : Nat) : Nat := ((tabs p).getD k dT).l.length
def greatB (p : Pr) : Bool := (tabs p).any fun t => decide (40 < t.l.length)
theorem great_yes {p : Pr} (k : Nat) (hk : k < 11) (h : decide (((lenAt p k : Nat) : Int) > 40) = true) : true = greatB p := by
  have h : 40 < lenAt p k := by simp at h; omega
  refine Eq.symm (List.any_eq_true.2 ⟨(tabs p).getD k dT, ?_, decide_eq_true h⟩)
  have hl : k < (tabs p).length := hk
  rw [List.getD_eq_getElem?_getD, List.getElem?_eq_getElem hl]
  exact List.getElem_mem hl
theorem great_no {p : Pr} (h : ∀ j, j < 11 → lenAt p j ≤ 40) : false = greatB p := by
  refine Eq.symm (Bool.eq_false_iff.2 fun hb => ?_)
  obtain ⟨t, ht, hg⟩ := List.any_eq_true.1 hb
  obtain ⟨j, hj, rfl⟩ := List.getElem_of_mem ht
  have := h j hj
  rw [lenAt, List.getD_eq_getElem?_getD, List.getElem?_eq_getElem hj] at this
  simp at hg this
  omega
theorem great_step {p : Pr} {k : Nat} (h : ∀ j, j < k → lenAt p j ≤ 40) (hk : decide (((lenAt p k : Nat) : Int) > 40) = false) : ∀ j, j < k + 1 → lenAt p j ≤ 40 := fun j hj => by
  have hk : lenAt p k ≤ 40 := by simp at hk; omega
  by_cases e : j = k
  · subst e; exact hk
  · exact h j (by omega)
theorem gr9 (p : Pr) : Contract Try.prog 9 [encP p] [] (.bool (greatB p)) [] := by
  refine contract_of_awp mix Try.func9 rfl (by kernel_rfl) ?_
  repeat' ((conv => whnf); first | refine brP_intro (fun _ => ?_) (fun _ => ?_) | refine storeEq rfl ?_ | refine natEq rfl ?_ | refine drawGo (by kernel_rfl) ?_ | refine And.intro ?_ ?_ | refine ⟨_, tb39 p, rfl, ?_⟩ | fail)
  conv => whnf
  refine loop_at 16 (fun k : Nat => [(2, .bool false), (3, .mp 1 0 0), (4, .int .i64 k)]) (fun k => k ≤ 11 ∧ ∀ j, j < k → lenAt p j ≤ 40) (fun k => 11 - k) 0 ⟨Nat.zero_le _, fun j hj => by omega⟩ ?_ ?_ ?_
  · rfl
  · (repeat' (first | exact trivial | refine And.intro rfl ?_ | fail))
  rintro k ⟨hk, hj⟩ hM
  have : k = 0 ∨ k = 1 ∨ k = 2 ∨ k = 3 ∨ k = 4 ∨ k = 5 ∨ k = 6 ∨ k = 7 ∨ k = 8 ∨ k = 9 ∨ k = 10 ∨ k = 11 := by omega
  rcases this with rfl | rfl | rfl | rfl | rfl | rfl | rfl | rfl | rfl | rfl | rfl | rfl
  · repeat' ((conv => whnf); first | refine brP_intro (fun _ => ?_) (fun _ => ?_) | refine storeEq rfl ?_ | refine natEq rfl ?_ | refine drawGo (by kernel_rfl) ?_ | refine And.intro ?_ ?_ | refine next hM (0 + 1) ?_ ?_ ?_ | fail)
    all_goals first | exact nilStore | (clear hM; omega) | (refine weak_keep rfl ?_; repeat' (first | exact trivial | refine And.intro rfl ?_ | refine And.intro (bump (by omega)) ?_ | fail)) | skip
    · rename_i hg
      exact congrArg AV.bool (great_yes 0 (by decide) hg)
    · rename_i hg
      exact great_step hj hg
  · repeat' ((conv => whnf); first | refine brP_intro (fun _ => ?_) (fun _ => ?_) | refine storeEq rfl ?_ | refine natEq rfl ?_ | refine drawGo (by kernel_rfl) ?_ | refine And.intro ?_ ?_ | refine next hM (1 + 1) ?_ ?_ ?_ | fail)
    all_goals first | exact nilStore | (clear hM; omega) | (refine weak_keep rfl ?_; repeat' (first | exact trivial | refine And.intro rfl ?_ | refine And.intro (bump (by omega)) ?_ | fail)) | skip
    · rename_i hg
      exact congrArg AV.bool (great_yes 1 (by decide) hg)
    · rename_i hg
      exact great_step hj hg
  · repeat' ((conv => whnf); first | refine brP_intro (fun _ => ?_) (fun _ => ?_) | refine storeEq rfl ?_ | refine natEq rfl ?_ | refine drawGo (by kernel_rfl) ?_ | refine And.intro ?_ ?_ | refine next hM (2 + 1) ?_ ?_ ?_ | fail)
    all_goals first | exact nilStore | (clear hM; omega) | (refine weak_keep rfl ?_; repeat' (first | exact trivial | refine And.intro rfl ?_ | refine And.intro (bump (by omega)) ?_ | fail)) | skip
    · rename_i hg
      exact congrArg AV.bool (great_yes 2 (by decide) hg)
    · rename_i hg
      exact great_step hj hg
  · repeat' ((conv => whnf); first | refine brP_intro (fun _ => ?_) (fun _ => ?_) | refine storeEq rfl ?_ | refine natEq rfl ?_ | refine drawGo (by kernel_rfl) ?_ | refine And.intro ?_ ?_ | refine next hM (3 + 1) ?_ ?_ ?_ | fail)
    all_goals first | exact nilStore | (clear hM; omega) | (refine weak_keep rfl ?_; repeat' (first | exact trivial | refine And.intro rfl ?_ | refine And.intro (bump (by omega)) ?_ | fail)) | skip
    · rename_i hg
      exact congrArg AV.bool (great_yes 3 (by decide) hg)
    · rename_i hg
      exact great_step hj hg
  · repeat' ((conv => whnf); first | refine brP_intro (fun _ => ?_) (fun _ => ?_) | refine storeEq rfl ?_ | refine natEq rfl ?_ | refine drawGo (by kernel_rfl) ?_ | refine And.intro ?_ ?_ | refine next hM (4 + 1) ?_ ?_ ?_ | fail)
    all_goals first | exact nilStore | (clear hM; omega) | (refine weak_keep rfl ?_; repeat' (first | exact trivial | refine And.intro rfl ?_ | refine And.intro (bump (by omega)) ?_ | fail)) | skip
    · rename_i hg
      exact congrArg AV.bool (great_yes 4 (by decide) hg)
    · rename_i hg
      exact great_step hj hg
  · repeat' ((conv => whnf); first | refine brP_intro (fun _ => ?_) (fun _ => ?_) | refine storeEq rfl ?_ | refine natEq rfl ?_ | refine drawGo (by kernel_rfl) ?_ | refine And.intro ?_ ?_ | refine next hM (5 + 1) ?_ ?_ ?_ | fail)
    all_goals first | exact nilStore | (clear hM; omega) | (refine weak_keep rfl ?_; repeat' (first | exact trivial | refine And.intro rfl ?_ | refine And.intro (bump (by omega)) ?_ | fail)) | skip
    · rename_i hg
      exact congrArg AV.bool (great_yes 5 (by decide) hg)
    · rename_i hg
      exact great_step hj hg
  · repeat' ((conv => whnf); first | refine brP_intro (fun _ => ?_) (fun _ => ?_) | refine storeEq rfl ?_ | refine natEq rfl ?_ | refine drawGo (by kernel_rfl) ?_ | refine And.intro ?_ ?_ | refine next hM (6 + 1) ?_ ?_ ?_ | fail)
    all_goals first | exact nilStore | (clear hM; omega) | (refine weak_keep rfl ?_; repeat' (first | exact trivial | refine And.intro rfl ?_ | refine And.intro (bump (by omega)) ?_ | fail)) | skip
    · rename_i hg
      exact congrArg AV.bool (great_yes 6 (by decide) hg)
    · rename_i hg
      exact great_step hj hg
  · repeat' ((conv => whnf); first | refine brP_intro (fun _ => ?_) (fun _ => ?_) | refine storeEq rfl ?_ | refine natEq rfl ?_ | refine drawGo (by kernel_rfl) ?_ | refine And.intro ?_ ?_ | refine next hM (7 + 1) ?_ ?_ ?_ | fail)
    all_goals first | exact nilStore | (clear hM; omega) | (refine weak_keep rfl ?_; repeat' (first | exact trivial | refine And.intro rfl ?_ | refine And.intro (bump (by omega)) ?_ | fail)) | skip
    · rename_i hg
      exact congrArg AV.bool (great_yes 7 (by decide) hg)
    · rename_i hg
      exact great_step hj hg
  · repeat' ((conv => whnf); first | refine brP_intro (fun _ => ?_) (fun _ => ?_) | refine storeEq rfl ?_ | refine natEq rfl ?_ | refine drawGo (by kernel_rfl) ?_ | refine And.intro ?_ ?_ | refine next hM (8 + 1) ?_ ?_ ?_ | fail)
    all_goals first | exact nilStore | (clear hM; omega) | (refine weak_keep rfl ?_; repeat' (first | exact trivial | refine And.intro rfl ?_ | refine And.intro (bump (by omega)) ?_ | fail)) | skip
    · rename_i hg
      exact congrArg AV.bool (great_yes 8 (by decide) hg)
    · rename_i hg
      exact great_step hj hg
  · repeat' ((conv => whnf); first | refine brP_intro (fun _ => ?_) (fun _ => ?_) | refine storeEq rfl ?_ | refine natEq rfl ?_ | refine drawGo (by kernel_rfl) ?_ | refine And.intro ?_ ?_ | refine next hM (9 + 1) ?_ ?_ ?_ | fail)
    all_goals first | exact nilStore | (clear hM; omega) | (refine weak_keep rfl ?_; repeat' (first | exact trivial | refine And.intro rfl ?_ | refine And.intro (bump (by omega)) ?_ | fail)) | skip
    · rename_i hg
      exact congrArg AV.bool (great_yes 9 (by decide) hg)
    · rename_i hg
      exact great_step hj hg
  · repeat' ((conv => whnf); first | refine brP_intro (fun _ => ?_) (fun _ => ?_) | refine storeEq rfl ?_ | refine natEq rfl ?_ | refine drawGo (by kernel_rfl) ?_ | refine And.intro ?_ ?_ | refine next hM (10 + 1) ?_ ?_ ?_ | fail)
    all_goals first | exact nilStore | (clear hM; omega) | (refine weak_keep rfl ?_; repeat' (first | exact trivial | refine And.intro rfl ?_ | refine And.intro (bump (by omega)) ?_ | fail)) | skip
    · rename_i hg
      exact congrArg AV.bool (great_yes 10 (by decide) hg)
    · rename_i hg
      exact great_step hj hg
  · repeat' ((conv => whnf); first | refine brP_intro (fun _ => ?_) (fun _ => ?_) | refine storeEq rfl ?_ | refine natEq rfl ?_ | refine drawGo (by kernel_rfl) ?_ | refine And.intro ?_ ?_ | fail)
    all_goals first | exact nilStore | refine congrArg AV.bool (great_no hj)
end Go.Proofs.Ytjpoihfadkkneaa
