/- Contracts of the properties' functions. No condition. -/
import Derived.Test.YtjpoihfadkkneaaCb
namespace Go.Proofs.Ytjpoihfadkkneaa
open Go Go.SE
set_option linter.unusedVariables false
set_option linter.unusedSimpArgs false
set_option maxRecDepth 10000
attribute [local irreducible] Contract
structure Pr where
  (ex un jo ol us ig le jn sc di ma : Tb)
def encP (p : Pr) : AV := .agg [encT p.ex, encT p.un, encT p.jo, encT p.ol, encT p.us, encT p.ig, encT p.le, encT p.jn, encT p.sc, encT p.di, encT p.ma]
def dT : Tb := ⟨none, []⟩
def tabs (p : Pr) : List Tb := [p.ex, p.un, p.jo, p.ol, p.us, p.ig, p.le, p.jn, p.sc, p.di, p.ma]
def fit (t : Tb) : Prop := t.l.length ≤ 2305843009213693952
def fits (p : Pr) : Prop := fit p.ex ∧ fit p.un ∧ fit p.jo ∧ fit p.ol ∧ fit p.us ∧ fit p.ig ∧ fit p.le ∧ fit p.jn ∧ fit p.sc ∧ fit p.di ∧ fit p.ma
theorem has22 (t : Tb) (r : Int) (hb : fit t) : Contract Try.prog 22 [encT t, .int .i32 r] [] (.bool (fndR t.l r).2) [] := by
  refine contract_of_awp mix Try.func22 rfl (by kernel_rfl) ?_
  have hb' : t.l.length ≤ 4611686018427387904 := Nat.le_trans hb (by decide)
  repeat' ((conv => whnf); first | refine brP_intro (fun _ => ?_) (fun _ => ?_) | refine storeEq rfl ?_ | refine natEq rfl ?_ | refine drawGo (by kernel_rfl) ?_ | refine And.intro ?_ ?_ | refine ⟨_, fnd42 t r hb', rfl, ?_⟩ | fail)
  all_goals rfl
theorem in44 (t : Tb) (r : Int) (hb : fit t) : Contract Try.prog 44 [encT t, .int .i32 r] [] (.bool (fndB t.l r).2) [] := by
  refine contract_of_awp mix Try.func44 rfl (by kernel_rfl) ?_
  repeat' ((conv => whnf); first | refine brP_intro (fun _ => ?_) (fun _ => ?_) | refine storeEq rfl ?_ | refine natEq rfl ?_ | refine drawGo (by kernel_rfl) ?_ | refine And.intro ?_ ?_ | refine ⟨_, fnd41 t r hb, rfl, ?_⟩ | fail)
  all_goals rfl
theorem has43 (t : Tb) (r : Int) (hb : fit t) : Contract Try.prog 43 [encT t, .ip (.int .i32 r) 0] [] (.bool (fndB t.l r).2) [] := by
  refine contract_of_awp mix Try.func43 rfl (by kernel_rfl) ?_
  repeat' ((conv => whnf); first | refine brP_intro (fun _ => ?_) (fun _ => ?_) | refine storeEq rfl ?_ | refine natEq rfl ?_ | refine drawGo (by kernel_rfl) ?_ | refine And.intro ?_ ?_ | refine ⟨_, in44 t r hb, rfl, ?_⟩ | fail)
  all_goals rfl
/-- The line that says what a rune is, by a way to find. -/
def whyG (f : List Rg → Int → Int × Bool) (p : Pr) (r : Int) : Int :=
  if !rightB r then 1 else if (f p.ex.l r).2 then 2 else if (f p.un.l r).2 then 3 else if ldhB r then 4 else if (f p.jo.l r).2 then 5 else if (f p.ol.l r).2 then 6 else if (f p.us.l r).2 then 7 else if (f p.ig.l r).2 then 8 else if (f p.le.l r).2 then 9 else 10
theorem why13 (p : Pr) (r : Int) (hb : fits p) : Contract Try.prog 13 [encP p, .int .i32 r] [] (.int .i64 (whyG fndB p r)) [] := by
  refine contract_of_awp mix Try.func13 rfl (by kernel_rfl) ?_
  obtain ⟨h1, h2, h3, h4, h5, h6, h7, h8, h9, h10, h11⟩ := hb
  repeat' ((conv => whnf); first | refine brP_intro (fun _ => ?_) (fun _ => ?_) | refine storeEq rfl ?_ | refine natEq rfl ?_ | refine drawGo (by kernel_rfl) ?_ | refine And.intro ?_ ?_ | refine ⟨_, right45 r, rfl, ?_⟩ | refine ⟨_, has43 _ r (by assumption), rfl, ?_⟩ | refine ⟨_, ldh46 r, rfl, ?_⟩ | fail)
  all_goals first | rfl | (simp only [whyG]; simp_all; done)
attribute [irreducible] whyG
/-- A rune's class, by a way to find. -/
def ofG (f : List Rg → Int → Int × Bool) (p : Pr) (r : Int) : Int :=
  if whyG f p r = 2 then (f p.ex.l r).1 else if whyG f p r = 3 then 5 else if whyG f p r = 4 then 1 else if whyG f p r = 9 then 1 else if whyG f p r = 5 then 2 else 4
theorem of11 (p : Pr) (r : Int) (hb : fits p) : Contract Try.prog 11 [encP p, .int .i32 r] [] (.int .i64 (ofG fndB p r)) [] := by
  refine contract_of_awp mix Try.func11 rfl (by kernel_rfl) ?_
  repeat' ((conv => whnf); first | refine brP_intro (fun _ => ?_) (fun _ => ?_) | refine storeEq rfl ?_ | refine natEq rfl ?_ | refine drawGo (by kernel_rfl) ?_ | refine And.intro ?_ ?_ | refine ⟨_, why13 p r hb, rfl, ?_⟩ | refine ⟨_, fnd41 p.ex r hb.1, rfl, ?_⟩ | fail)
  all_goals first | exact nilStore | refine congrArg (AV.int .i64) ?_
  all_goals simp only [tt, ft, notT, eqF, beq_iff_eq] at *
  all_goals simp only [ofG, *, if_true, if_false]
  all_goals simp
end Go.Proofs.Ytjpoihfadkkneaa
