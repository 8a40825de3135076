/- The law 'ClassesTells' and what all laws of the classes begin with. No condition. -/
import Derived.Test.YtjpoihfadkkneaaCf
namespace Go.Proofs.Ytjpoihfadkkneaa
open Go Go.SE
set_option linter.unusedVariables false
set_option linter.unusedSimpArgs false
set_option maxRecDepth 10000
attribute [local irreducible] Contract
def nilT : Tb := ⟨some true, []⟩
def pA : Pr := ⟨nilT, nilT, nilT, nilT, ⟨some false, [⟨201, 201, 0⟩]⟩, nilT, ⟨some false, [⟨233, 233, 0⟩]⟩, nilT, nilT, nilT, nilT⟩
theorem fitsA : fits pA := by
  refine ⟨?_, ?_, ?_, ?_, ?_, ?_, ?_, ?_, ?_, ?_, ?_⟩ <;> (unfold fit; decide)
theorem ofA1 : ofG fndB pA 233 = 1 := by kernel_rfl
theorem ofA2 : ofG fndB pA 201 = 4 := by kernel_rfl
theorem ofA3 : ofG fndB pA 97 = 1 := by kernel_rfl
theorem ofA4 : ofG fndB pA 65 = 4 := by kernel_rfl
theorem aw1 : Contract Try.prog 11 [encP pA, .int .i32 233] [] (.int .i64 1) [] := by have := of11 pA 233 fitsA; rwa [ofA1] at this
theorem aw2 : Contract Try.prog 11 [encP pA, .int .i32 201] [] (.int .i64 4) [] := by have := of11 pA 201 fitsA; rwa [ofA2] at this
theorem aw3 : Contract Try.prog 11 [encP pA, .int .i32 97] [] (.int .i64 1) [] := by have := of11 pA 97 fitsA; rwa [ofA3] at this
theorem aw4 : Contract Try.prog 11 [encP pA, .int .i32 65] [] (.int .i64 4) [] := by have := of11 pA 65 fitsA; rwa [ofA4] at this
theorem nil_le {get : Nat → AV} : (AV.sl (some true) 0 get).Le (encT nilT) := AV.Le.sl fun j hj => absurd hj (Nat.not_lt_zero _)
theorem one_le {get : Nat → AV} {x : Rg} (h : get 0 = encR x) : (AV.sl (some false) 1 get).Le (encT ⟨some false, [x]⟩) := AV.Le.sl fun j hj => by
  have : j = 0 := by omega
  subst this
  exact h
theorem aw8 : Contract Try.prog 8 [] [] (.bool true) [] := by
  refine contract_of_awp mix Try.func8 rfl (by kernel_rfl) ?_
  repeat' ((conv => whnf); first | refine brP_intro (fun _ => ?_) (fun _ => ?_) | refine storeEq rfl ?_ | refine natEq rfl ?_ | refine drawGo (by kernel_rfl) ?_ | refine And.intro ?_ ?_ | refine ⟨_, contract_le aw1 ⟨AV.Le.agg ⟨nil_le, nil_le, nil_le, nil_le, one_le rfl, nil_le, one_le rfl, nil_le, nil_le, nil_le, nil_le, trivial⟩, AV.Le.refl _, trivial⟩, rfl, ?_⟩ | refine ⟨_, contract_le aw2 ⟨AV.Le.agg ⟨nil_le, nil_le, nil_le, nil_le, one_le rfl, nil_le, one_le rfl, nil_le, nil_le, nil_le, nil_le, trivial⟩, AV.Le.refl _, trivial⟩, rfl, ?_⟩ | refine ⟨_, contract_le aw3 ⟨AV.Le.agg ⟨nil_le, nil_le, nil_le, nil_le, one_le rfl, nil_le, one_le rfl, nil_le, nil_le, nil_le, nil_le, trivial⟩, AV.Le.refl _, trivial⟩, rfl, ?_⟩ | refine ⟨_, contract_le aw4 ⟨AV.Le.agg ⟨nil_le, nil_le, nil_le, nil_le, one_le rfl, nil_le, one_le rfl, nil_le, nil_le, nil_le, nil_le, trivial⟩, AV.Le.refl _, trivial⟩, rfl, ?_⟩ | fail)
  all_goals rfl
theorem small_fits {p : Pr} (h : greatB p = false) : fits p := by
  have h' : ∀ t ∈ tabs p, fit t := fun t ht => by
    have := (List.any_eq_false.1 h) t ht
    simp at this
    exact Nat.le_trans this (by decide)
  refine ⟨h' p.ex ?_, h' p.un ?_, h' p.jo ?_, h' p.ol ?_, h' p.us ?_, h' p.ig ?_, h' p.le ?_, h' p.jn ?_, h' p.sc ?_, h' p.di ?_, h' p.ma ?_⟩ <;> simp [tabs]
/-- What is told of a rune, by a law. -/
theorem tell4 (p : Pr) (r : Int) : Contract Try.prog 4 [encP p, .int .i32 r] [] (.bool true) [] := by
  have c9 := gr9 p
  have c10 := ri10 p
  cases hg : greatB p with
  | true =>
    rw [hg] at c9
    refine contract_of_awp mix Try.func4 rfl (by kernel_rfl) ?_
    repeat' ((conv => whnf); first | refine brP_intro (fun _ => ?_) (fun _ => ?_) | refine storeEq rfl ?_ | refine natEq rfl ?_ | refine drawGo (by kernel_rfl) ?_ | refine And.intro ?_ ?_ | refine ⟨_, aw8, rfl, ?_⟩ | refine ⟨_, c9, rfl, ?_⟩ | fail)
    all_goals first | exact nilStore | rfl
  | false =>
  have hb := small_fits hg
  rw [hg] at c9
  by_cases hr : (chkP p).2 = 0
  · obtain ⟨_, _, _, _, _, _, _, e1, e2, e3, e4⟩ := right_ok hr r
    have c15 := jn15 p r hb
    have c17 := sc17 p r hb
    have c19 := di19 p r hb
    have c21 := ma21 p r hb
    rw [e1] at c15
    rw [e2] at c17
    rw [e3] at c19
    rw [e4] at c21
    have hm := Nat.le_trans hb.2.2.2.2.2.2.2.2.2.2 (show 2305843009213693952 ≤ 4611686018427387904 by decide)
    rw [show decide ((chkP p).2 = 0) = true from decide_eq_true hr] at c10
    refine contract_of_awp mix Try.func4 rfl (by kernel_rfl) ?_
    repeat' ((conv => whnf); first | refine brP_intro (fun _ => ?_) (fun _ => ?_) | refine storeEq rfl ?_ | refine natEq rfl ?_ | refine drawGo (by kernel_rfl) ?_ | refine And.intro ?_ ?_ | refine ⟨_, aw8, rfl, ?_⟩ | refine ⟨_, c9, rfl, ?_⟩ | refine ⟨_, c10, rfl, ?_⟩ | refine ⟨_, c15, rfl, ?_⟩ | refine ⟨_, jn16 p r hb, rfl, ?_⟩ | refine ⟨_, c17, rfl, ?_⟩ | refine ⟨_, sc18 p r hb, rfl, ?_⟩ | refine ⟨_, c19, rfl, ?_⟩ | refine ⟨_, di20 p r hb, rfl, ?_⟩ | refine ⟨_, c21, rfl, ?_⟩ | refine ⟨_, has22 p.ma r hb.2.2.2.2.2.2.2.2.2.2, rfl, ?_⟩ | fail)
    all_goals first | exact nilStore | rfl | simp_all
  · rw [show decide ((chkP p).2 = 0) = false from decide_eq_false hr] at c10
    refine contract_of_awp mix Try.func4 rfl (by kernel_rfl) ?_
    repeat' ((conv => whnf); first | refine brP_intro (fun _ => ?_) (fun _ => ?_) | refine storeEq rfl ?_ | refine natEq rfl ?_ | refine drawGo (by kernel_rfl) ?_ | refine And.intro ?_ ?_ | refine ⟨_, aw8, rfl, ?_⟩ | refine ⟨_, c9, rfl, ?_⟩ | refine ⟨_, c10, rfl, ?_⟩ | fail)
    all_goals first | exact nilStore | rfl
end Go.Proofs.Ytjpoihfadkkneaa
