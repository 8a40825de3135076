/- Contracts of functions, walked by their models; printed by a program of ours. No condition. -/
import Derived.Test.YtjhgaacecfmadaaGreatDoorK0
import Derived.Test.YtjhgaacecfmadaaGreatDoorProg
import Derived.KernelRfl
namespace Go.Proofs.YtjhgaacecfmadaaGreatDoor
open Go Go.SE
set_option linter.unusedVariables false
set_option linter.unusedSimpArgs false
set_option maxRecDepth 10000
set_option maxHeartbeats 2000000
attribute [local irreducible] Contract iter
theorem c_comp_Put (p_t : T_api_Norm) (p_l : (List Int)) (r : (List Int)) (h : m_comp_Put p_t p_l = some r) : Contract pl 21 [(e_api_Norm p_t), (e_L_i32 p_l)] [] (e_L_i32 r) [] := by
 refine contract_of (.t false .z (.t false .z (.t false .z (.t true .z .z)))) Tryz.func21 rfl (by kernel_rfl) ?_
 ((conv=>whnf);repeat((first|apply TT mix|apply sE rfl|apply dG (by kernel_rfl)|fail);(conv=>whnf)))
 refine bnd h (fun x9 h9 h => ?_)
 refine cut_at (fun s1 : (List T_api_Row) × (List T_api_Range) × (List Int) × (List Int) × Int × Int => mkF 28 [(5, (.mp 0 0 0))] [some ⟨6, 90, (.vals [(.agg [(e_L_api_Row s1.1), (e_L_api_Range s1.2.1), (e_L_i32 s1.2.2.1), (.ms 1 s1.2.2.2.1.length), (.int .i64 s1.2.2.2.2.1), (.int .i64 s1.2.2.2.2.2)])]), false, false⟩, some ⟨1, 21, (.ints .i32 s1.2.2.2.1), false, true⟩]) (fun s1 : (List T_api_Row) × (List T_api_Range) × (List Int) × (List Int) × Int × Int => some s1.2.2.2.1 = some r) ?_ ?_
 ·intro Kn9 hn9
  ((conv=>whnf);repeat((first|apply TT mix|apply sE rfl|apply dG (by kernel_rfl)|fail);(conv=>whnf)))
  refine loop_iter (fun s4 : (List T_api_Row) × (List T_api_Range) × (List Int) × (List Int) × Int × Int × Int => mkF 28 [(5, (.mp 0 0 0)), (6, (.fn (.func 43) [(.mp 0 0 0)] [])), (14, (e_L_i32 p_l)), (15, (.int .i64 ((p_l.length : Nat) : Int))), (16, (.int .i64 s4.2.2.2.2.2.2))] [some ⟨6, 90, (.vals [(.agg [(e_L_api_Row s4.1), (e_L_api_Range s4.2.1), (e_L_i32 s4.2.2.1), (.ms 1 s4.2.2.2.1.length), (.int .i64 s4.2.2.2.2.1), (.int .i64 s4.2.2.2.2.2.1)])]), false, false⟩, some ⟨1, 21, (.ints .i32 s4.2.2.2.1), false, true⟩]) h9 (weak_trans (weak_nilc 1 0 3 _ [(.agg [(e_L_api_Row p_t.f_Rows), (e_L_api_Range p_t.f_Classes), (e_L_i32 p_t.f_Excluded), (.sl (some true) 0 fun _ => .unk), (.int .i64 (-1 : Int)), (.int .i64 (0 : Int))])] [(e_L_api_Row p_t.f_Rows), (e_L_api_Range p_t.f_Classes), (e_L_i32 p_t.f_Excluded), (.sl (some true) 0 fun _ => .unk), (.int .i64 (-1 : Int)), (.int .i64 (0 : Int))] 1 21 (.ints .i32 []) _ rfl rfl rfl rfl rfl trivial (by first | exact Nat.zero_le _ | simp)) (weak_gen [1, 2] rfl rfl (sK rfl (rowLe_vals (valsLe.cons (cellsLe.cons (cR rfl rfl) (cellsLe.cons (cR rfl rfl) (cellsLe.cons (cR rfl rfl) (cellsLe.cons (cR rfl rfl) (cellsLe.cons (cR rfl rfl) (cellsLe.cons (cR rfl rfl) cellsLe.nil)))))) valsLe.nil)) (sK rfl (rowLe_ints (by first | rfl | simp)) storeLe.nil)) (sQ rfl rfl))) ?_
  intro k6 s4 st6 Kn6 hn6 h6_ hs6
  ((conv=>whnf);repeat((first|apply TT mix|apply sE rfl|apply dG (by kernel_rfl)|fail);(conv=>whnf)))
  refine br_b rfl h6_ (fun c10 h6_ => ?_) (fun c10 h6_ => ?_)
  ·((conv=>whnf);repeat((first|apply TT mix|apply sE rfl|apply dG (by kernel_rfl)|fail);(conv=>whnf)))
   refine grd2 rfl rfl h6_ (fun h6_ => ?_)
   ((conv=>whnf);repeat((first|apply TT mix|apply sE rfl|apply dG (by kernel_rfl)|fail);(conv=>whnf)))
   refine bnd h6_ (fun y7 hy7 h6_ => ?_)
   refine Or.inr (own_intro (own_call [0, 1] (c_comp_row_add_own _ _ _ _ _ _ _ _ hy7) rfl (sK rfl (rowLe_vals (valsLe.cons (cellsLe.cons (cR rfl rfl) (cellsLe.cons (cR rfl rfl) (cellsLe.cons (cR rfl rfl) (cellsLe.cons (And.intro rfl (AV.Le.of_eq (congrArg (AV.ms _) (by first | rfl | omega | (simp; omega) | simp)))) (cellsLe.cons (cR rfl rfl) (cellsLe.cons (cR rfl rfl) cellsLe.nil)))))) valsLe.nil)) (sK rfl (rowLe_ints (by first | rfl | simp)) storeLe.nil)) (cellsLe.cons (And.intro rfl (AV.Le.refl _)) (cellsLe.cons (And.intro rfl (AV.Le.refl _)) cellsLe.nil)) rfl) ?_)
   have e := Option.some.inj h6_; subst e
   ((conv=>whnf);repeat((first|apply TT mix|apply sE rfl|apply dG (by kernel_rfl)|fail);(conv=>whnf)))
   exact hn6 _ (y7.1, y7.2.1, y7.2.2.1, y7.2.2.2.1, y7.2.2.2.2.1, y7.2.2.2.2.2, (IntKind.wrap .i64 (s4.2.2.2.2.2.2 + (1 : Int)))) hs6 (weak_gen [0, 2] rfl rfl (sK rfl (rowLe_vals (valsLe.cons (cellsLe.cons (cR rfl rfl) (cellsLe.cons (cR rfl rfl) (cellsLe.cons (cR rfl rfl) (cellsLe.cons (And.intro rfl (AV.Le.of_eq (congrArg (AV.ms _) (by first | rfl | omega | (simp; omega) | simp)))) (cellsLe.cons (cR rfl rfl) (cellsLe.cons (cR rfl rfl) cellsLe.nil)))))) valsLe.nil)) (sK rfl (rowLe_ints (by first | rfl | simp)) storeLe.nil)) (sQ rfl rfl))
  ·have e := Option.some.inj h6_; subst e
   have e := done_out hs6; subst e
   ((conv=>whnf);repeat((first|apply TT mix|apply sE rfl|apply dG (by kernel_rfl)|fail);(conv=>whnf)))
   exact hn9 _ (s4.1, s4.2.1, s4.2.2.1, s4.2.2.2.1, s4.2.2.2.2.1, s4.2.2.2.2.2.1) h (weak_gen [0, 1] rfl rfl (sK rfl (rowLe_vals (valsLe.cons (cellsLe.cons (cR rfl rfl) (cellsLe.cons (cR rfl rfl) (cellsLe.cons (cR rfl rfl) (cellsLe.cons (And.intro rfl (AV.Le.of_eq (congrArg (AV.ms _) (by first | rfl | omega | (simp; omega) | simp)))) (cellsLe.cons (cR rfl rfl) (cellsLe.cons (cR rfl rfl) cellsLe.nil)))))) valsLe.nil)) (sK rfl (rowLe_ints (by first | rfl | simp)) storeLe.nil)) (slotsLe.cons (cR rfl rfl) slotsLe.nil))
 ·clear h h9
  intro s1 hc11
  have e := Option.some.inj hc11; subst e
  ((conv=>whnf);repeat((first|apply TT mix|apply sE rfl|apply dG (by kernel_rfl)|fail);(conv=>whnf)))
  exact And.intro (AV.Le.refl _) rfl
theorem c_comp_All (p_t : T_api_Norm) (p_l : (List Int)) (r : (List Int)) (h : m_comp_All p_t p_l = some r) : Contract pl 11 [(e_api_Norm p_t), (e_L_i32 p_l)] [] (e_L_i32 r) [] := by
 refine contract_of .z Tryz.func11 rfl (by kernel_rfl) ?_
 ((conv=>whnf);repeat((first|apply TT mix|apply sE rfl|apply dG (by kernel_rfl)|fail);(conv=>whnf)))
 refine bnd h (fun y1 hy1 h => ?_)
 refine Or.inl ⟨_, c_decomp_All _ _ _ hy1, rfl, ?_⟩
 ((conv=>whnf);repeat((first|apply TT mix|apply sE rfl|apply dG (by kernel_rfl)|fail);(conv=>whnf)))
 refine bnd h (fun y2 hy2 h => ?_)
 refine Or.inl ⟨_, c_comp_Put _ _ _ hy2, rfl, ?_⟩
 have e := Option.some.inj h; subst e
 ((conv=>whnf);repeat((first|apply TT mix|apply sE rfl|apply dG (by kernel_rfl)|fail);(conv=>whnf)))
 exact And.intro (AV.Le.refl _) rfl
theorem c_eponymlaw01_Same (p_a : (List Int)) (p_b : (List Int)) (r : Bool) (h : m_eponymlaw01_Same p_a p_b = some r) : Contract pl 10 [(e_L_i32 p_a), (e_L_i32 p_b)] [] (AV.bool r) [] := by
 refine contract_of (.t false .z (.t false .z (.t true .z .z))) Tryz.func10 rfl (by kernel_rfl) ?_
 ((conv=>whnf);repeat((first|apply TT mix|apply sE rfl|apply dG (by kernel_rfl)|fail);(conv=>whnf)))
 refine br_b rfl h (fun c10 h => ?_) (fun c10 h => ?_)
 ·have e := Option.some.inj h; subst e
  ((conv=>whnf);repeat((first|apply TT mix|apply sE rfl|apply dG (by kernel_rfl)|fail);(conv=>whnf)))
  exact And.intro (AV.Le.refl _) rfl
 ·((conv=>whnf);repeat((first|apply TT mix|apply sE rfl|apply dG (by kernel_rfl)|fail);(conv=>whnf)))
  refine bnd h (fun x11 h11 h => ?_)
  refine cut_at (fun s1 : Unit => mkF 26 [] []) (fun s1 : Unit => some true = some r) ?_ ?_
  ·intro Kn11 hn11
   ((conv=>whnf);repeat((first|apply TT mix|apply sE rfl|apply dG (by kernel_rfl)|fail);(conv=>whnf)))
   refine loop_iter (fun s4 : Int => mkF 26 [(0, (e_L_i32 p_a)), (1, (e_L_i32 p_b)), (5, (.int .i64 s4))] []) h11 (weak_gen [] rfl rfl storeLe.nil (sQ rfl rfl)) ?_
   intro k6 s4 st6 Kn6 hn6 h6_ hs6
   ((conv=>whnf);repeat((first|apply TT mix|apply sE rfl|apply dG (by kernel_rfl)|fail);(conv=>whnf)))
   refine br_b rfl h6_ (fun c12 h6_ => ?_) (fun c12 h6_ => ?_)
   ·((conv=>whnf);repeat((first|apply TT mix|apply sE rfl|apply dG (by kernel_rfl)|fail);(conv=>whnf)))
    refine grd2 rfl rfl h6_ (fun h6_ => ?_)
    ((conv=>whnf);repeat((first|apply TT mix|apply sE rfl|apply dG (by kernel_rfl)|fail);(conv=>whnf)))
    refine grd2 rfl rfl h6_ (fun h6_ => ?_)
    ((conv=>whnf);repeat((first|apply TT mix|apply sE rfl|apply dG (by kernel_rfl)|fail);(conv=>whnf)))
    refine br_b rfl h6_ (fun c13 h6_ => ?_) (fun c13 h6_ => ?_)
    ·have e := Option.some.inj h6_; subst e
     have e := done_out hs6; subst e
     have e := Option.some.inj h; subst e
     ((conv=>whnf);repeat((first|apply TT mix|apply sE rfl|apply dG (by kernel_rfl)|fail);(conv=>whnf)))
     exact And.intro (AV.Le.refl _) rfl
    ·have e := Option.some.inj h6_; subst e
     ((conv=>whnf);repeat((first|apply TT mix|apply sE rfl|apply dG (by kernel_rfl)|fail);(conv=>whnf)))
     exact hn6 _ (IntKind.wrap .i64 (s4 + (1 : Int))) hs6 (weak_gen [] rfl rfl storeLe.nil (sQ rfl rfl))
   ·have e := Option.some.inj h6_; subst e
    have e := done_out hs6; subst e
    ((conv=>whnf);repeat((first|apply TT mix|apply sE rfl|apply dG (by kernel_rfl)|fail);(conv=>whnf)))
    exact hn11 _ () h (weak_gen [] rfl rfl storeLe.nil slotsLe.nil)
  ·clear h h11
   intro s1 hc14
   have e := Option.some.inj hc14; subst e
   ((conv=>whnf);repeat((first|apply TT mix|apply sE rfl|apply dG (by kernel_rfl)|fail);(conv=>whnf)))
   exact And.intro (AV.Le.refl _) rfl
theorem c_eponymlaw05_awake  (r : Bool) (h : m_eponymlaw05_awake  = some r) : Contract pl 4 [] [] (AV.bool r) [] := by
 refine contract_of .z Tryz.func4 rfl (by kernel_rfl) ?_
 ((conv=>whnf);repeat((first|apply TT mix|apply sE rfl|apply dG (by kernel_rfl)|fail);(conv=>whnf)))
 refine bnd h (fun y1 hy1 h => ?_)
 refine Or.inl ⟨_, contract_le (c_comp_All _ _ _ hy1) (argsLe.cons (AV.Le.agg (argsLe.cons (AV.Le.lits (enc := fun x => (e_api_Row x)) d_api_Row rfl (litsLe.cons (argsLe.cons (AV.Le.refl _) (argsLe.cons (AV.Le.list (by simp; try omega) (fun j hj => by first | rfl | rw [getD_sub hj] | (rw [getD_take hj]; simp) | simp)) argsLe.nil)) rfl litsLe.nil)) (argsLe.cons (AV.Le.lits (enc := fun x => (e_api_Range x)) d_api_Range rfl (litsLe.cons (argsLe.cons (AV.Le.refl _) (argsLe.cons (AV.Le.refl _) (argsLe.cons (AV.Le.refl _) argsLe.nil))) rfl litsLe.nil)) (argsLe.cons (AV.Le.list rfl (fun j hj => absurd hj (Nat.not_lt_zero _))) argsLe.nil)))) (argsLe.cons (AV.Le.list (by simp; try omega) (fun j hj => by first | rfl | rw [getD_sub hj] | (rw [getD_take hj]; simp) | simp)) argsLe.nil)), rfl, ?_⟩
 ((conv=>whnf);repeat((first|apply TT mix|apply sE rfl|apply dG (by kernel_rfl)|fail);(conv=>whnf)))
 refine bnd h (fun y2 hy2 h => ?_)
 refine Or.inl ⟨_, contract_le (c_eponymlaw01_Same _ _ _ hy2) (argsLe.cons (AV.Le.refl _) (argsLe.cons (AV.Le.list (by simp; try omega) (fun j hj => by first | rfl | rw [getD_sub hj] | (rw [getD_take hj]; simp) | simp)) argsLe.nil)), rfl, ?_⟩
 ((conv=>whnf);repeat((first|apply TT mix|apply sE rfl|apply dG (by kernel_rfl)|fail);(conv=>whnf)))
 refine br_b rfl h (fun c5 h => ?_) (fun c5 h => ?_)
 ·((conv=>whnf);repeat((first|apply TT mix|apply sE rfl|apply dG (by kernel_rfl)|fail);(conv=>whnf)))
  refine bnd h (fun y3 hy3 h => ?_)
  refine Or.inl ⟨_, contract_le (c_comp_All _ _ _ hy3) (argsLe.cons (AV.Le.agg (argsLe.cons (AV.Le.lits (enc := fun x => (e_api_Row x)) d_api_Row rfl (litsLe.cons (argsLe.cons (AV.Le.refl _) (argsLe.cons (AV.Le.list (by simp; try omega) (fun j hj => by first | rfl | rw [getD_sub hj] | (rw [getD_take hj]; simp) | simp)) argsLe.nil)) rfl litsLe.nil)) (argsLe.cons (AV.Le.lits (enc := fun x => (e_api_Range x)) d_api_Range rfl (litsLe.cons (argsLe.cons (AV.Le.refl _) (argsLe.cons (AV.Le.refl _) (argsLe.cons (AV.Le.refl _) argsLe.nil))) rfl litsLe.nil)) (argsLe.cons (AV.Le.list rfl (fun j hj => absurd hj (Nat.not_lt_zero _))) argsLe.nil)))) (argsLe.cons (AV.Le.list (by simp; try omega) (fun j hj => by first | rfl | rw [getD_sub hj] | (rw [getD_take hj]; simp) | simp)) argsLe.nil)), rfl, ?_⟩
  ((conv=>whnf);repeat((first|apply TT mix|apply sE rfl|apply dG (by kernel_rfl)|fail);(conv=>whnf)))
  refine bnd h (fun y4 hy4 h => ?_)
  refine Or.inl ⟨_, contract_le (c_eponymlaw01_Same _ _ _ hy4) (argsLe.cons (AV.Le.refl _) (argsLe.cons (AV.Le.list (by simp; try omega) (fun j hj => by first | rfl | rw [getD_sub hj] | (rw [getD_take hj]; simp) | simp)) argsLe.nil)), rfl, ?_⟩
  have e := Option.some.inj h; subst e
  ((conv=>whnf);repeat((first|apply TT mix|apply sE rfl|apply dG (by kernel_rfl)|fail);(conv=>whnf)))
  exact And.intro (AV.Le.refl _) rfl
 ·have e := Option.some.inj h; subst e
  ((conv=>whnf);repeat((first|apply TT mix|apply sE rfl|apply dG (by kernel_rfl)|fail);(conv=>whnf)))
  exact And.intro (AV.Le.refl _) rfl
theorem c_eponymlaw04_Great (p_t : T_api_Norm) (r : Bool) (h : m_eponymlaw04_Great p_t = some r) : Contract pl 5 [(e_api_Norm p_t)] [] (AV.bool r) [] := by
 refine contract_of (.t false .z (.t false (.t true .z .z) (.t true .z .z))) Tryz.func5 rfl (by kernel_rfl) ?_
 ((conv=>whnf);repeat((first|apply TT mix|apply sE rfl|apply dG (by kernel_rfl)|fail);(conv=>whnf)))
 refine bnd h (fun x12 h12 h => ?_)
 refine cut_at (fun s1 : Bool => mkF 35 [(1, (.mp 0 0 0)), (19, (.bool s1))] [some ⟨3, 26, (.vals [(e_api_Norm p_t)]), false, false⟩]) (fun s1 : Bool => m_eponymlaw04_Great_K2 p_t s1 = some r) ?_ ?_
 ·intro Kn12 hn12
  ((conv=>whnf);repeat((first|apply TT mix|apply sE rfl|apply dG (by kernel_rfl)|fail);(conv=>whnf)))
  refine br_b rfl h12 (fun c13 h12 => ?_) (fun c13 h12 => ?_)
  ·have e := Option.some.inj h12; subst e
   ((conv=>whnf);repeat((first|apply TT mix|apply sE rfl|apply dG (by kernel_rfl)|fail);(conv=>whnf)))
   exact hn12 _ true h (weak_gen [0] rfl rfl (sK rfl (rowLe_vals (valsLe.cons (cellsLe_refl rfl) valsLe.nil)) storeLe.nil) (sQ rfl rfl))
  ·((conv=>whnf);repeat((first|apply TT mix|apply sE rfl|apply dG (by kernel_rfl)|fail);(conv=>whnf)))
   refine br_b rfl h12 (fun c14 h12 => ?_) (fun c14 h12 => ?_)
   ·have e := Option.some.inj h12; subst e
    ((conv=>whnf);repeat((first|apply TT mix|apply sE rfl|apply dG (by kernel_rfl)|fail);(conv=>whnf)))
    exact hn12 _ true h (weak_gen [0] rfl rfl (sK rfl (rowLe_vals (valsLe.cons (cellsLe_refl rfl) valsLe.nil)) storeLe.nil) (sQ rfl rfl))
   ·have e := Option.some.inj h12; subst e
    ((conv=>whnf);repeat((first|apply TT mix|apply sE rfl|apply dG (by kernel_rfl)|fail);(conv=>whnf)))
    exact hn12 _ (decide (((p_t.f_Excluded.length : Nat) : Int) > (40 : Int))) h (weak_gen [0] rfl rfl (sK rfl (rowLe_vals (valsLe.cons (cellsLe_refl rfl) valsLe.nil)) storeLe.nil) (sQ rfl rfl))
 ·clear h h12
  intro s1 hc15
  ((conv=>whnf);repeat((first|apply TT mix|apply sE rfl|apply dG (by kernel_rfl)|fail);(conv=>whnf)))
  refine br_b rfl hc15 (fun c16 hc15 => ?_) (fun c16 hc15 => ?_)
  ·have e := Option.some.inj hc15; subst e
   ((conv=>whnf);repeat((first|apply TT mix|apply sE rfl|apply dG (by kernel_rfl)|fail);(conv=>whnf)))
   exact And.intro (AV.Le.refl _) rfl
  ·((conv=>whnf);repeat((first|apply TT mix|apply sE rfl|apply dG (by kernel_rfl)|fail);(conv=>whnf)))
   refine bnd hc15 (fun x17 h17 hc15 => ?_)
   refine cut_at (fun s3 : Unit => mkF 35 [] []) (fun s3 : Unit => some false = some r) ?_ ?_
   ·intro Kn17 hn17
    ((conv=>whnf);repeat((first|apply TT mix|apply sE rfl|apply dG (by kernel_rfl)|fail);(conv=>whnf)))
    refine loop_iter (fun s6 : Int => mkF 35 [(1, (.mp 0 0 0)), (3, (.int .i64 s6))] [some ⟨3, 26, (.vals [(e_api_Norm p_t)]), false, false⟩]) h17 (weak_gen [0] rfl rfl (sK rfl (rowLe_vals (valsLe.cons (cellsLe_refl rfl) valsLe.nil)) storeLe.nil) (sQ rfl rfl)) ?_
    intro k8 s6 st8 Kn8 hn8 h8_ hs8
    ((conv=>whnf);repeat((first|apply TT mix|apply sE rfl|apply dG (by kernel_rfl)|fail);(conv=>whnf)))
    refine br_b rfl h8_ (fun c18 h8_ => ?_) (fun c18 h8_ => ?_)
    ·((conv=>whnf);repeat((first|apply TT mix|apply sE rfl|apply dG (by kernel_rfl)|fail);(conv=>whnf)))
     refine grd2 rfl rfl h8_ (fun h8_ => ?_)
     ((conv=>whnf);repeat((first|apply TT mix|apply sE rfl|apply dG (by kernel_rfl)|fail);(conv=>whnf)))
     refine br_b rfl h8_ (fun c19 h8_ => ?_) (fun c19 h8_ => ?_)
     ·have e := Option.some.inj h8_; subst e
      have e := done_out hs8; subst e
      have e := Option.some.inj hc15; subst e
      ((conv=>whnf);repeat((first|apply TT mix|apply sE rfl|apply dG (by kernel_rfl)|fail);(conv=>whnf)))
      exact And.intro (AV.Le.refl _) rfl
     ·have e := Option.some.inj h8_; subst e
      ((conv=>whnf);repeat((first|apply TT mix|apply sE rfl|apply dG (by kernel_rfl)|fail);(conv=>whnf)))
      exact hn8 _ (IntKind.wrap .i64 (s6 + (1 : Int))) hs8 (weak_gen [0] rfl rfl (sK rfl (rowLe_vals (valsLe.cons (cellsLe_refl rfl) valsLe.nil)) storeLe.nil) (sQ rfl rfl))
    ·have e := Option.some.inj h8_; subst e
     have e := done_out hs8; subst e
     ((conv=>whnf);repeat((first|apply TT mix|apply sE rfl|apply dG (by kernel_rfl)|fail);(conv=>whnf)))
     exact hn17 _ () hc15 (weak_gen [] rfl rfl storeLe.nil slotsLe.nil)
   ·clear hc15 h17
    intro s3 hc20
    have e := Option.some.inj hc20; subst e
    ((conv=>whnf);repeat((first|apply TT mix|apply sE rfl|apply dG (by kernel_rfl)|fail);(conv=>whnf)))
    exact And.intro (AV.Le.refl _) rfl
theorem c_eponymref01_Right (p_r : Int) (r : Bool) (h : m_eponymref01_Right p_r = some r) : Contract pl 26 [(AV.int .i32 p_r)] [] (AV.bool r) [] := by
 refine contract_of .z Tryz.func26 rfl (by kernel_rfl) ?_
 ((conv=>whnf);repeat((first|apply TT mix|apply sE rfl|apply dG (by kernel_rfl)|fail);(conv=>whnf)))
 refine br_b rfl h (fun c1 h => ?_) (fun c1 h => ?_)
 ·((conv=>whnf);repeat((first|apply TT mix|apply sE rfl|apply dG (by kernel_rfl)|fail);(conv=>whnf)))
  refine br_b rfl h (fun c2 h => ?_) (fun c2 h => ?_)
  ·((conv=>whnf);repeat((first|apply TT mix|apply sE rfl|apply dG (by kernel_rfl)|fail);(conv=>whnf)))
   refine br_b rfl h (fun c3 h => ?_) (fun c3 h => ?_)
   ·have e := Option.some.inj h; subst e
    ((conv=>whnf);repeat((first|apply TT mix|apply sE rfl|apply dG (by kernel_rfl)|fail);(conv=>whnf)))
    exact And.intro (AV.Le.refl _) rfl
   ·have e := Option.some.inj h; subst e
    ((conv=>whnf);repeat((first|apply TT mix|apply sE rfl|apply dG (by kernel_rfl)|fail);(conv=>whnf)))
    exact And.intro (AV.Le.refl _) rfl
  ·have e := Option.some.inj h; subst e
   ((conv=>whnf);repeat((first|apply TT mix|apply sE rfl|apply dG (by kernel_rfl)|fail);(conv=>whnf)))
   exact And.intro (AV.Le.refl _) rfl
 ·have e := Option.some.inj h; subst e
  ((conv=>whnf);repeat((first|apply TT mix|apply sE rfl|apply dG (by kernel_rfl)|fail);(conv=>whnf)))
  exact And.intro (AV.Le.refl _) rfl
theorem c_eponymref04_hangul (p_r : Int) (r : Bool) (h : m_eponymref04_hangul p_r = some r) : Contract pl 25 [(AV.int .i32 p_r)] [] (AV.bool r) [] := by
 refine contract_of .z Tryz.func25 rfl (by kernel_rfl) ?_
 ((conv=>whnf);repeat((first|apply TT mix|apply sE rfl|apply dG (by kernel_rfl)|fail);(conv=>whnf)))
 refine br_b rfl h (fun c1 h => ?_) (fun c1 h => ?_)
 ·((conv=>whnf);repeat((first|apply TT mix|apply sE rfl|apply dG (by kernel_rfl)|fail);(conv=>whnf)))
  refine br_b rfl h (fun c2 h => ?_) (fun c2 h => ?_)
  ·have e := Option.some.inj h; subst e
   ((conv=>whnf);repeat((first|apply TT mix|apply sE rfl|apply dG (by kernel_rfl)|fail);(conv=>whnf)))
   exact And.intro (AV.Le.refl _) rfl
  ·((conv=>whnf);repeat((first|apply TT mix|apply sE rfl|apply dG (by kernel_rfl)|fail);(conv=>whnf)))
   refine br_b rfl h (fun c3 h => ?_) (fun c3 h => ?_)
   ·((conv=>whnf);repeat((first|apply TT mix|apply sE rfl|apply dG (by kernel_rfl)|fail);(conv=>whnf)))
    refine br_b rfl h (fun c4 h => ?_) (fun c4 h => ?_)
    ·have e := Option.some.inj h; subst e
     ((conv=>whnf);repeat((first|apply TT mix|apply sE rfl|apply dG (by kernel_rfl)|fail);(conv=>whnf)))
     exact And.intro (AV.Le.refl _) rfl
    ·((conv=>whnf);repeat((first|apply TT mix|apply sE rfl|apply dG (by kernel_rfl)|fail);(conv=>whnf)))
     refine br_b rfl h (fun c5 h => ?_) (fun c5 h => ?_)
     ·((conv=>whnf);repeat((first|apply TT mix|apply sE rfl|apply dG (by kernel_rfl)|fail);(conv=>whnf)))
      refine br_b rfl h (fun c6 h => ?_) (fun c6 h => ?_)
      ·have e := Option.some.inj h; subst e
       ((conv=>whnf);repeat((first|apply TT mix|apply sE rfl|apply dG (by kernel_rfl)|fail);(conv=>whnf)))
       exact And.intro (AV.Le.refl _) rfl
      ·((conv=>whnf);repeat((first|apply TT mix|apply sE rfl|apply dG (by kernel_rfl)|fail);(conv=>whnf)))
       refine br_b rfl h (fun c7 h => ?_) (fun c7 h => ?_)
       ·have e := Option.some.inj h; subst e
        ((conv=>whnf);repeat((first|apply TT mix|apply sE rfl|apply dG (by kernel_rfl)|fail);(conv=>whnf)))
        exact And.intro (AV.Le.refl _) rfl
       ·have e := Option.some.inj h; subst e
        ((conv=>whnf);repeat((first|apply TT mix|apply sE rfl|apply dG (by kernel_rfl)|fail);(conv=>whnf)))
        exact And.intro (AV.Le.refl _) rfl
     ·((conv=>whnf);repeat((first|apply TT mix|apply sE rfl|apply dG (by kernel_rfl)|fail);(conv=>whnf)))
      refine br_b rfl h (fun c8 h => ?_) (fun c8 h => ?_)
      ·have e := Option.some.inj h; subst e
       ((conv=>whnf);repeat((first|apply TT mix|apply sE rfl|apply dG (by kernel_rfl)|fail);(conv=>whnf)))
       exact And.intro (AV.Le.refl _) rfl
      ·have e := Option.some.inj h; subst e
       ((conv=>whnf);repeat((first|apply TT mix|apply sE rfl|apply dG (by kernel_rfl)|fail);(conv=>whnf)))
       exact And.intro (AV.Le.refl _) rfl
   ·((conv=>whnf);repeat((first|apply TT mix|apply sE rfl|apply dG (by kernel_rfl)|fail);(conv=>whnf)))
    refine br_b rfl h (fun c9 h => ?_) (fun c9 h => ?_)
    ·((conv=>whnf);repeat((first|apply TT mix|apply sE rfl|apply dG (by kernel_rfl)|fail);(conv=>whnf)))
     refine br_b rfl h (fun c10 h => ?_) (fun c10 h => ?_)
     ·have e := Option.some.inj h; subst e
      ((conv=>whnf);repeat((first|apply TT mix|apply sE rfl|apply dG (by kernel_rfl)|fail);(conv=>whnf)))
      exact And.intro (AV.Le.refl _) rfl
     ·((conv=>whnf);repeat((first|apply TT mix|apply sE rfl|apply dG (by kernel_rfl)|fail);(conv=>whnf)))
      refine br_b rfl h (fun c11 h => ?_) (fun c11 h => ?_)
      ·have e := Option.some.inj h; subst e
       ((conv=>whnf);repeat((first|apply TT mix|apply sE rfl|apply dG (by kernel_rfl)|fail);(conv=>whnf)))
       exact And.intro (AV.Le.refl _) rfl
      ·have e := Option.some.inj h; subst e
       ((conv=>whnf);repeat((first|apply TT mix|apply sE rfl|apply dG (by kernel_rfl)|fail);(conv=>whnf)))
       exact And.intro (AV.Le.refl _) rfl
    ·((conv=>whnf);repeat((first|apply TT mix|apply sE rfl|apply dG (by kernel_rfl)|fail);(conv=>whnf)))
     refine br_b rfl h (fun c12 h => ?_) (fun c12 h => ?_)
     ·have e := Option.some.inj h; subst e
      ((conv=>whnf);repeat((first|apply TT mix|apply sE rfl|apply dG (by kernel_rfl)|fail);(conv=>whnf)))
      exact And.intro (AV.Le.refl _) rfl
     ·have e := Option.some.inj h; subst e
      ((conv=>whnf);repeat((first|apply TT mix|apply sE rfl|apply dG (by kernel_rfl)|fail);(conv=>whnf)))
      exact And.intro (AV.Le.refl _) rfl
 ·((conv=>whnf);repeat((first|apply TT mix|apply sE rfl|apply dG (by kernel_rfl)|fail);(conv=>whnf)))
  refine br_b rfl h (fun c13 h => ?_) (fun c13 h => ?_)
  ·((conv=>whnf);repeat((first|apply TT mix|apply sE rfl|apply dG (by kernel_rfl)|fail);(conv=>whnf)))
   refine br_b rfl h (fun c14 h => ?_) (fun c14 h => ?_)
   ·have e := Option.some.inj h; subst e
    ((conv=>whnf);repeat((first|apply TT mix|apply sE rfl|apply dG (by kernel_rfl)|fail);(conv=>whnf)))
    exact And.intro (AV.Le.refl _) rfl
   ·((conv=>whnf);repeat((first|apply TT mix|apply sE rfl|apply dG (by kernel_rfl)|fail);(conv=>whnf)))
    refine br_b rfl h (fun c15 h => ?_) (fun c15 h => ?_)
    ·((conv=>whnf);repeat((first|apply TT mix|apply sE rfl|apply dG (by kernel_rfl)|fail);(conv=>whnf)))
     refine br_b rfl h (fun c16 h => ?_) (fun c16 h => ?_)
     ·have e := Option.some.inj h; subst e
      ((conv=>whnf);repeat((first|apply TT mix|apply sE rfl|apply dG (by kernel_rfl)|fail);(conv=>whnf)))
      exact And.intro (AV.Le.refl _) rfl
     ·((conv=>whnf);repeat((first|apply TT mix|apply sE rfl|apply dG (by kernel_rfl)|fail);(conv=>whnf)))
      refine br_b rfl h (fun c17 h => ?_) (fun c17 h => ?_)
      ·have e := Option.some.inj h; subst e
       ((conv=>whnf);repeat((first|apply TT mix|apply sE rfl|apply dG (by kernel_rfl)|fail);(conv=>whnf)))
       exact And.intro (AV.Le.refl _) rfl
      ·have e := Option.some.inj h; subst e
       ((conv=>whnf);repeat((first|apply TT mix|apply sE rfl|apply dG (by kernel_rfl)|fail);(conv=>whnf)))
       exact And.intro (AV.Le.refl _) rfl
    ·((conv=>whnf);repeat((first|apply TT mix|apply sE rfl|apply dG (by kernel_rfl)|fail);(conv=>whnf)))
     refine br_b rfl h (fun c18 h => ?_) (fun c18 h => ?_)
     ·have e := Option.some.inj h; subst e
      ((conv=>whnf);repeat((first|apply TT mix|apply sE rfl|apply dG (by kernel_rfl)|fail);(conv=>whnf)))
      exact And.intro (AV.Le.refl _) rfl
     ·have e := Option.some.inj h; subst e
      ((conv=>whnf);repeat((first|apply TT mix|apply sE rfl|apply dG (by kernel_rfl)|fail);(conv=>whnf)))
      exact And.intro (AV.Le.refl _) rfl
  ·((conv=>whnf);repeat((first|apply TT mix|apply sE rfl|apply dG (by kernel_rfl)|fail);(conv=>whnf)))
   refine br_b rfl h (fun c19 h => ?_) (fun c19 h => ?_)
   ·((conv=>whnf);repeat((first|apply TT mix|apply sE rfl|apply dG (by kernel_rfl)|fail);(conv=>whnf)))
    refine br_b rfl h (fun c20 h => ?_) (fun c20 h => ?_)
    ·have e := Option.some.inj h; subst e
     ((conv=>whnf);repeat((first|apply TT mix|apply sE rfl|apply dG (by kernel_rfl)|fail);(conv=>whnf)))
     exact And.intro (AV.Le.refl _) rfl
    ·((conv=>whnf);repeat((first|apply TT mix|apply sE rfl|apply dG (by kernel_rfl)|fail);(conv=>whnf)))
     refine br_b rfl h (fun c21 h => ?_) (fun c21 h => ?_)
     ·have e := Option.some.inj h; subst e
      ((conv=>whnf);repeat((first|apply TT mix|apply sE rfl|apply dG (by kernel_rfl)|fail);(conv=>whnf)))
      exact And.intro (AV.Le.refl _) rfl
     ·have e := Option.some.inj h; subst e
      ((conv=>whnf);repeat((first|apply TT mix|apply sE rfl|apply dG (by kernel_rfl)|fail);(conv=>whnf)))
      exact And.intro (AV.Le.refl _) rfl
   ·((conv=>whnf);repeat((first|apply TT mix|apply sE rfl|apply dG (by kernel_rfl)|fail);(conv=>whnf)))
    refine br_b rfl h (fun c22 h => ?_) (fun c22 h => ?_)
    ·have e := Option.some.inj h; subst e
     ((conv=>whnf);repeat((first|apply TT mix|apply sE rfl|apply dG (by kernel_rfl)|fail);(conv=>whnf)))
     exact And.intro (AV.Le.refl _) rfl
    ·have e := Option.some.inj h; subst e
     ((conv=>whnf);repeat((first|apply TT mix|apply sE rfl|apply dG (by kernel_rfl)|fail);(conv=>whnf)))
     exact And.intro (AV.Le.refl _) rfl
theorem c_eponymref04_Row (p_t : T_api_Norm) (p_r : Int) (r : Int) (h : m_eponymref04_Row p_t p_r = some r) : Contract pl 46 [(e_api_Norm p_t), (AV.int .i32 p_r)] [] (AV.int .i64 r) [] := by
 refine contract_of (.t false .z (.t true .z .z)) Tryz.func46 rfl (by kernel_rfl) ?_
 ((conv=>whnf);repeat((first|apply TT mix|apply sE rfl|apply dG (by kernel_rfl)|fail);(conv=>whnf)))
 refine bnd h (fun x10 h10 h => ?_)
 refine cut_at (fun s1 : Unit => mkF 22 [] []) (fun s1 : Unit => some (-1 : Int) = some r) ?_ ?_
 ·intro Kn10 hn10
  ((conv=>whnf);repeat((first|apply TT mix|apply sE rfl|apply dG (by kernel_rfl)|fail);(conv=>whnf)))
  refine loop_iter (fun s4 : Int => mkF 22 [(1, (.int .i32 p_r)), (2, (.mp 0 0 0)), (5, (.int .i64 s4))] [some ⟨3, 26, (.vals [(e_api_Norm p_t)]), false, false⟩]) h10 (weak_gen [0] rfl rfl (sK rfl (rowLe_vals (valsLe.cons (cellsLe_refl rfl) valsLe.nil)) storeLe.nil) (sQ rfl rfl)) ?_
  intro k6 s4 st6 Kn6 hn6 h6_ hs6
  ((conv=>whnf);repeat((first|apply TT mix|apply sE rfl|apply dG (by kernel_rfl)|fail);(conv=>whnf)))
  refine br_b rfl h6_ (fun c11 h6_ => ?_) (fun c11 h6_ => ?_)
  ·((conv=>whnf);repeat((first|apply TT mix|apply sE rfl|apply dG (by kernel_rfl)|fail);(conv=>whnf)))
   refine grd2 rfl rfl h6_ (fun h6_ => ?_)
   ((conv=>whnf);repeat((first|apply TT mix|apply sE rfl|apply dG (by kernel_rfl)|fail);(conv=>whnf)))
   refine br_b rfl h6_ (fun c12 h6_ => ?_) (fun c12 h6_ => ?_)
   ·have e := Option.some.inj h6_; subst e
    have e := done_out hs6; subst e
    have e := Option.some.inj h; subst e
    ((conv=>whnf);repeat((first|apply TT mix|apply sE rfl|apply dG (by kernel_rfl)|fail);(conv=>whnf)))
    exact And.intro (AV.Le.refl _) rfl
   ·have e := Option.some.inj h6_; subst e
    ((conv=>whnf);repeat((first|apply TT mix|apply sE rfl|apply dG (by kernel_rfl)|fail);(conv=>whnf)))
    exact hn6 _ (IntKind.wrap .i64 (s4 + (1 : Int))) hs6 (weak_gen [0] rfl rfl (sK rfl (rowLe_vals (valsLe.cons (cellsLe_refl rfl) valsLe.nil)) storeLe.nil) (sQ rfl rfl))
  ·have e := Option.some.inj h6_; subst e
   have e := done_out hs6; subst e
   ((conv=>whnf);repeat((first|apply TT mix|apply sE rfl|apply dG (by kernel_rfl)|fail);(conv=>whnf)))
   exact hn10 _ () h (weak_gen [] rfl rfl storeLe.nil slotsLe.nil)
 ·clear h h10
  intro s1 hc13
  have e := Option.some.inj hc13; subst e
  ((conv=>whnf);repeat((first|apply TT mix|apply sE rfl|apply dG (by kernel_rfl)|fail);(conv=>whnf)))
  exact And.intro (AV.Le.refl _) rfl
theorem c_eponymref04_ahead (p_t : T_api_Norm) (p_i : Int) (r : Int) (h : m_eponymref04_ahead p_t p_i = some r) : Contract pl 47 [(e_api_Norm p_t), (AV.int .i64 p_i)] [] (AV.int .i64 r) [] := by
 refine contract_of (.t false .z (.t true .z .z)) Tryz.func47 rfl (by kernel_rfl) ?_
 ((conv=>whnf);repeat((first|apply TT mix|apply sE rfl|apply dG (by kernel_rfl)|fail);(conv=>whnf)))
 refine bnd h (fun x10 h10 h => ?_)
 refine cut_at (fun s1 : Unit => mkF 27 [] []) (fun s1 : Unit => some (-1 : Int) = some r) ?_ ?_
 ·intro Kn10 hn10
  ((conv=>whnf);repeat((first|apply TT mix|apply sE rfl|apply dG (by kernel_rfl)|fail);(conv=>whnf)))
  refine loop_iter (fun s4 : Int => mkF 27 [(1, (.int .i64 p_i)), (2, (.mp 0 0 0)), (5, (.int .i64 s4))] [some ⟨3, 26, (.vals [(e_api_Norm p_t)]), false, false⟩]) h10 (weak_gen [0] rfl rfl (sK rfl (rowLe_vals (valsLe.cons (cellsLe_refl rfl) valsLe.nil)) storeLe.nil) (sQ rfl rfl)) ?_
  intro k6 s4 st6 Kn6 hn6 h6_ hs6
  ((conv=>whnf);repeat((first|apply TT mix|apply sE rfl|apply dG (by kernel_rfl)|fail);(conv=>whnf)))
  refine br_b rfl h6_ (fun c11 h6_ => ?_) (fun c11 h6_ => ?_)
  ·((conv=>whnf);repeat((first|apply TT mix|apply sE rfl|apply dG (by kernel_rfl)|fail);(conv=>whnf)))
   refine grd2 rfl rfl h6_ (fun h6_ => ?_)
   ((conv=>whnf);repeat((first|apply TT mix|apply sE rfl|apply dG (by kernel_rfl)|fail);(conv=>whnf)))
   refine grd2 rfl rfl h6_ (fun h6_ => ?_)
   ((conv=>whnf);repeat((first|apply TT mix|apply sE rfl|apply dG (by kernel_rfl)|fail);(conv=>whnf)))
   refine grd2 rfl rfl h6_ (fun h6_ => ?_)
   ((conv=>whnf);repeat((first|apply TT mix|apply sE rfl|apply dG (by kernel_rfl)|fail);(conv=>whnf)))
   refine br_b rfl h6_ (fun c12 h6_ => ?_) (fun c12 h6_ => ?_)
   ·have e := Option.some.inj h6_; subst e
    have e := done_out hs6; subst e
    have e := Option.some.inj h; subst e
    ((conv=>whnf);repeat((first|apply TT mix|apply sE rfl|apply dG (by kernel_rfl)|fail);(conv=>whnf)))
    exact And.intro (AV.Le.refl _) rfl
   ·have e := Option.some.inj h6_; subst e
    ((conv=>whnf);repeat((first|apply TT mix|apply sE rfl|apply dG (by kernel_rfl)|fail);(conv=>whnf)))
    exact hn6 _ (IntKind.wrap .i64 (s4 + (1 : Int))) hs6 (weak_gen [0] rfl rfl (sK rfl (rowLe_vals (valsLe.cons (cellsLe_refl rfl) valsLe.nil)) storeLe.nil) (sQ rfl rfl))
  ·have e := Option.some.inj h6_; subst e
   have e := done_out hs6; subst e
   ((conv=>whnf);repeat((first|apply TT mix|apply sE rfl|apply dG (by kernel_rfl)|fail);(conv=>whnf)))
   exact hn10 _ () h (weak_gen [] rfl rfl storeLe.nil slotsLe.nil)
 ·clear h h10
  intro s1 hc13
  have e := Option.some.inj hc13; subst e
  ((conv=>whnf);repeat((first|apply TT mix|apply sE rfl|apply dG (by kernel_rfl)|fail);(conv=>whnf)))
  exact And.intro (AV.Le.refl _) rfl
theorem c_eponymref04_row (p_t : T_api_Norm) (p_i : Int) (r : Int) (h : m_eponymref04_row p_t p_i = some r) : Contract pl 23 [(e_api_Norm p_t), (AV.int .i64 p_i)] [] (AV.int .i64 r) [] := by
 refine contract_of (.t false .z (.t false .z (.t false (.t true .z .z) (.t false (.t true .z .z) (.t false (.t true .z .z) (.t true (.t false .z (.t false (.t false (.t false .z (.t false (.t false (.t true .z .z) .z) .z)) .z) .z)) (.t false (.t true .z .z) (.t false .z (.t true .z .z))))))))) Tryz.func23 rfl (by kernel_rfl) ?_
 ((conv=>whnf);repeat((first|apply TT mix|apply sE rfl|apply dG (by kernel_rfl)|fail);(conv=>whnf)))
 refine grd2 rfl rfl h (fun h => ?_)
 ((conv=>whnf);repeat((first|apply TT mix|apply sE rfl|apply dG (by kernel_rfl)|fail);(conv=>whnf)))
 refine bnd h (fun x35 h35 h => ?_)
 refine cut_at (fun s1 : Bool => mkF 101 [(1, (.int .i64 p_i)), (2, (.mp 0 0 0)), (5, (.mp 1 0 0)), (22, (.bool s1))] [some ⟨3, 26, (.vals [(e_api_Norm p_t)]), false, false⟩, some ⟨2, 38, (.vals [(e_api_Row (p_t.f_Rows.getD (p_i.toNat) d_api_Row))]), false, false⟩]) (fun s1 : Bool => m_eponymref04_row_K2 p_t p_i s1 = some r) ?_ ?_
 ·intro Kn35 hn35
  ((conv=>whnf);repeat((first|apply TT mix|apply sE rfl|apply dG (by kernel_rfl)|fail);(conv=>whnf)))
  refine bnd h35 (fun y33 hy33 h35 => ?_)
  refine Or.inl ⟨_, c_eponymref01_Right _ _ hy33, rfl, ?_⟩
  ((conv=>whnf);repeat((first|apply TT mix|apply sE rfl|apply dG (by kernel_rfl)|fail);(conv=>whnf)))
  refine br_b rfl h35 (fun c36 h35 => ?_) (fun c36 h35 => ?_)
  ·have e := Option.some.inj h35; subst e
   ((conv=>whnf);repeat((first|apply TT mix|apply sE rfl|apply dG (by kernel_rfl)|fail);(conv=>whnf)))
   exact hn35 _ true h (weak_gen [0, 1] rfl rfl (sK rfl (rowLe_vals (valsLe.cons (cellsLe_refl rfl) valsLe.nil)) (sK rfl (rowLe_vals (valsLe.cons (cellsLe_refl rfl) valsLe.nil)) storeLe.nil)) (sQ rfl rfl))
  ·((conv=>whnf);repeat((first|apply TT mix|apply sE rfl|apply dG (by kernel_rfl)|fail);(conv=>whnf)))
   refine bnd h35 (fun y34 hy34 h35 => ?_)
   refine Or.inl ⟨_, c_eponymref04_hangul _ _ hy34, rfl, ?_⟩
   have e := Option.some.inj h35; subst e
   ((conv=>whnf);repeat((first|apply TT mix|apply sE rfl|apply dG (by kernel_rfl)|fail);(conv=>whnf)))
   exact hn35 _ y34 h (weak_gen [0, 1] rfl rfl (sK rfl (rowLe_vals (valsLe.cons (cellsLe_refl rfl) valsLe.nil)) (sK rfl (rowLe_vals (valsLe.cons (cellsLe_refl rfl) valsLe.nil)) storeLe.nil)) (sQ rfl rfl))
 ·clear h h35
  intro s1 hc37
  ((conv=>whnf);repeat((first|apply TT mix|apply sE rfl|apply dG (by kernel_rfl)|fail);(conv=>whnf)))
  refine br_b rfl hc37 (fun c38 hc37 => ?_) (fun c38 hc37 => ?_)
  ·have e := Option.some.inj hc37; subst e
   ((conv=>whnf);repeat((first|apply TT mix|apply sE rfl|apply dG (by kernel_rfl)|fail);(conv=>whnf)))
   exact And.intro (AV.Le.refl _) rfl
  ·((conv=>whnf);repeat((first|apply TT mix|apply sE rfl|apply dG (by kernel_rfl)|fail);(conv=>whnf)))
   refine bnd hc37 (fun x39 h39 hc37 => ?_)
   refine cut_at (fun s3 : Bool => mkF 101 [(1, (.int .i64 p_i)), (2, (.mp 0 0 0)), (5, (.mp 1 0 0)), (36, (.bool s3))] [some ⟨3, 26, (.vals [(e_api_Norm p_t)]), false, false⟩, some ⟨2, 38, (.vals [(e_api_Row (p_t.f_Rows.getD (p_i.toNat) d_api_Row))]), false, false⟩]) (fun s3 : Bool => m_eponymref04_row_K4 p_t p_i s3 = some r) ?_ ?_
   ·intro Kn39 hn39
    ((conv=>whnf);repeat((first|apply TT mix|apply sE rfl|apply dG (by kernel_rfl)|fail);(conv=>whnf)))
    refine br_b rfl h39 (fun c40 h39 => ?_) (fun c40 h39 => ?_)
    ·((conv=>whnf);repeat((first|apply TT mix|apply sE rfl|apply dG (by kernel_rfl)|fail);(conv=>whnf)))
     refine grd2 rfl rfl h39 (fun h39 => ?_)
     have e := Option.some.inj h39; subst e
     ((conv=>whnf);repeat((first|apply TT mix|apply sE rfl|apply dG (by kernel_rfl)|fail);(conv=>whnf)))
     exact hn39 _ (decide ((p_t.f_Rows.getD (p_i.toNat) d_api_Row).f_From ≤ (p_t.f_Rows.getD ((IntKind.wrap .i64 (p_i - (1 : Int))).toNat) d_api_Row).f_From)) hc37 (weak_gen [0, 1] rfl rfl (sK rfl (rowLe_vals (valsLe.cons (cellsLe_refl rfl) valsLe.nil)) (sK rfl (rowLe_vals (valsLe.cons (cellsLe_refl rfl) valsLe.nil)) storeLe.nil)) (sQ rfl rfl))
    ·have e := Option.some.inj h39; subst e
     ((conv=>whnf);repeat((first|apply TT mix|apply sE rfl|apply dG (by kernel_rfl)|fail);(conv=>whnf)))
     exact hn39 _ false hc37 (weak_gen [0, 1] rfl rfl (sK rfl (rowLe_vals (valsLe.cons (cellsLe_refl rfl) valsLe.nil)) (sK rfl (rowLe_vals (valsLe.cons (cellsLe_refl rfl) valsLe.nil)) storeLe.nil)) (sQ rfl rfl))
   ·clear hc37 h39
    intro s3 hc41
    ((conv=>whnf);repeat((first|apply TT mix|apply sE rfl|apply dG (by kernel_rfl)|fail);(conv=>whnf)))
    refine br_b rfl hc41 (fun c42 hc41 => ?_) (fun c42 hc41 => ?_)
    ·have e := Option.some.inj hc41; subst e
     ((conv=>whnf);repeat((first|apply TT mix|apply sE rfl|apply dG (by kernel_rfl)|fail);(conv=>whnf)))
     exact And.intro (AV.Le.refl _) rfl
    ·((conv=>whnf);repeat((first|apply TT mix|apply sE rfl|apply dG (by kernel_rfl)|fail);(conv=>whnf)))
     refine bnd hc41 (fun x43 h43 hc41 => ?_)
     refine cut_at (fun s5 : Bool => mkF 101 [(1, (.int .i64 p_i)), (2, (.mp 0 0 0)), (5, (.mp 1 0 0)), (55, (.bool s5))] [some ⟨3, 26, (.vals [(e_api_Norm p_t)]), false, false⟩, some ⟨2, 38, (.vals [(e_api_Row (p_t.f_Rows.getD (p_i.toNat) d_api_Row))]), false, false⟩]) (fun s5 : Bool => m_eponymref04_row_K6 p_t p_i s5 = some r) ?_ ?_
     ·intro Kn43 hn43
      ((conv=>whnf);repeat((first|apply TT mix|apply sE rfl|apply dG (by kernel_rfl)|fail);(conv=>whnf)))
      refine br_b rfl h43 (fun c44 h43 => ?_) (fun c44 h43 => ?_)
      ·((conv=>whnf);repeat((first|apply TT mix|apply sE rfl|apply dG (by kernel_rfl)|fail);(conv=>whnf)))
       refine br_b rfl h43 (fun c45 h43 => ?_) (fun c45 h43 => ?_)
       ·have e := Option.some.inj h43; subst e
        ((conv=>whnf);repeat((first|apply TT mix|apply sE rfl|apply dG (by kernel_rfl)|fail);(conv=>whnf)))
        exact hn43 _ true hc41 (weak_gen [0, 1] rfl rfl (sK rfl (rowLe_vals (valsLe.cons (cellsLe_refl rfl) valsLe.nil)) (sK rfl (rowLe_vals (valsLe.cons (cellsLe_refl rfl) valsLe.nil)) storeLe.nil)) (sQ rfl rfl))
       ·((conv=>whnf);repeat((first|apply TT mix|apply sE rfl|apply dG (by kernel_rfl)|fail);(conv=>whnf)))
        refine grd2 rfl rfl h43 (fun h43 => ?_)
        have e := Option.some.inj h43; subst e
        ((conv=>whnf);repeat((first|apply TT mix|apply sE rfl|apply dG (by kernel_rfl)|fail);(conv=>whnf)))
        exact hn43 _ (decide (((p_t.f_Rows.getD (p_i.toNat) d_api_Row).f_To.getD 0 0) ≥ (p_t.f_Rows.getD (p_i.toNat) d_api_Row).f_From)) hc41 (weak_gen [0, 1] rfl rfl (sK rfl (rowLe_vals (valsLe.cons (cellsLe_refl rfl) valsLe.nil)) (sK rfl (rowLe_vals (valsLe.cons (cellsLe_refl rfl) valsLe.nil)) storeLe.nil)) (sQ rfl rfl))
      ·((conv=>whnf);repeat((first|apply TT mix|apply sE rfl|apply dG (by kernel_rfl)|fail);(conv=>whnf)))
       refine grd2 rfl rfl h43 (fun h43 => ?_)
       have e := Option.some.inj h43; subst e
       ((conv=>whnf);repeat((first|apply TT mix|apply sE rfl|apply dG (by kernel_rfl)|fail);(conv=>whnf)))
       exact hn43 _ (decide (((p_t.f_Rows.getD (p_i.toNat) d_api_Row).f_To.getD 0 0) ≥ (p_t.f_Rows.getD (p_i.toNat) d_api_Row).f_From)) hc41 (weak_gen [0, 1] rfl rfl (sK rfl (rowLe_vals (valsLe.cons (cellsLe_refl rfl) valsLe.nil)) (sK rfl (rowLe_vals (valsLe.cons (cellsLe_refl rfl) valsLe.nil)) storeLe.nil)) (sQ rfl rfl))
     ·clear hc41 h43
      intro s5 hc46
      ((conv=>whnf);repeat((first|apply TT mix|apply sE rfl|apply dG (by kernel_rfl)|fail);(conv=>whnf)))
      refine br_b rfl hc46 (fun c47 hc46 => ?_) (fun c47 hc46 => ?_)
      ·have e := Option.some.inj hc46; subst e
       ((conv=>whnf);repeat((first|apply TT mix|apply sE rfl|apply dG (by kernel_rfl)|fail);(conv=>whnf)))
       exact And.intro (AV.Le.refl _) rfl
      ·((conv=>whnf);repeat((first|apply TT mix|apply sE rfl|apply dG (by kernel_rfl)|fail);(conv=>whnf)))
       refine bnd hc46 (fun x48 h48 hc46 => ?_)
       refine cut_at (fun s7 : Unit => mkF 101 [(1, (.int .i64 p_i)), (2, (.mp 0 0 0)), (5, (.mp 1 0 0))] [some ⟨3, 26, (.vals [(e_api_Norm p_t)]), false, false⟩, some ⟨2, 38, (.vals [(e_api_Row (p_t.f_Rows.getD (p_i.toNat) d_api_Row))]), false, false⟩]) (fun s7 : Unit => m_eponymref04_row_K8 p_t p_i s7 = some r) ?_ ?_
       ·intro Kn48 hn48
        ((conv=>whnf);repeat((first|apply TT mix|apply sE rfl|apply dG (by kernel_rfl)|fail);(conv=>whnf)))
        refine loop_iter (fun s23 : Int => mkF 101 [(1, (.int .i64 p_i)), (2, (.mp 0 0 0)), (5, (.mp 1 0 0)), (6, (.int .i64 s23))] [some ⟨3, 26, (.vals [(e_api_Norm p_t)]), false, false⟩, some ⟨2, 38, (.vals [(e_api_Row (p_t.f_Rows.getD (p_i.toNat) d_api_Row))]), false, false⟩]) h48 (weak_gen [0, 1] rfl rfl (sK rfl (rowLe_vals (valsLe.cons (cellsLe_refl rfl) valsLe.nil)) (sK rfl (rowLe_vals (valsLe.cons (cellsLe_refl rfl) valsLe.nil)) storeLe.nil)) (sQ rfl rfl)) ?_
        intro k25 s23 st25 Kn25 hn25 h25_ hs25
        ((conv=>whnf);repeat((first|apply TT mix|apply sE rfl|apply dG (by kernel_rfl)|fail);(conv=>whnf)))
        refine br_b rfl h25_ (fun c49 h25_ => ?_) (fun c49 h25_ => ?_)
        ·((conv=>whnf);repeat((first|apply TT mix|apply sE rfl|apply dG (by kernel_rfl)|fail);(conv=>whnf)))
         refine bnd h25_ (fun x50 h50 h25_ => ?_)
         refine cut_at (fun s26 : Bool => mkF 101 [(1, (.int .i64 p_i)), (2, (.mp 0 0 0)), (5, (.mp 1 0 0)), (6, (.int .i64 s23)), (77, (.bool s26))] [some ⟨3, 26, (.vals [(e_api_Norm p_t)]), false, false⟩, some ⟨2, 38, (.vals [(e_api_Row (p_t.f_Rows.getD (p_i.toNat) d_api_Row))]), false, false⟩]) (fun s26 : Bool => m_eponymref04_row_K27 s23 s26 = some st25) ?_ ?_
         ·intro Kn50 hn50
          ((conv=>whnf);repeat((first|apply TT mix|apply sE rfl|apply dG (by kernel_rfl)|fail);(conv=>whnf)))
          refine grd2 rfl rfl h50 (fun h50 => ?_)
          ((conv=>whnf);repeat((first|apply TT mix|apply sE rfl|apply dG (by kernel_rfl)|fail);(conv=>whnf)))
          refine bnd h50 (fun y28 hy28 h50 => ?_)
          refine Or.inl ⟨_, c_eponymref01_Right _ _ hy28, rfl, ?_⟩
          ((conv=>whnf);repeat((first|apply TT mix|apply sE rfl|apply dG (by kernel_rfl)|fail);(conv=>whnf)))
          refine br_b rfl h50 (fun c51 h50 => ?_) (fun c51 h50 => ?_)
          ·have e := Option.some.inj h50; subst e
           ((conv=>whnf);repeat((first|apply TT mix|apply sE rfl|apply dG (by kernel_rfl)|fail);(conv=>whnf)))
           exact hn50 _ true h25_ (weak_gen [0, 1] rfl rfl (sK rfl (rowLe_vals (valsLe.cons (cellsLe_refl rfl) valsLe.nil)) (sK rfl (rowLe_vals (valsLe.cons (cellsLe_refl rfl) valsLe.nil)) storeLe.nil)) (sQ rfl rfl))
          ·((conv=>whnf);repeat((first|apply TT mix|apply sE rfl|apply dG (by kernel_rfl)|fail);(conv=>whnf)))
           refine grd2 rfl rfl h50 (fun h50 => ?_)
           ((conv=>whnf);repeat((first|apply TT mix|apply sE rfl|apply dG (by kernel_rfl)|fail);(conv=>whnf)))
           refine bnd h50 (fun y29 hy29 h50 => ?_)
           refine Or.inl ⟨_, c_eponymref04_hangul _ _ hy29, rfl, ?_⟩
           have e := Option.some.inj h50; subst e
           ((conv=>whnf);repeat((first|apply TT mix|apply sE rfl|apply dG (by kernel_rfl)|fail);(conv=>whnf)))
           exact hn50 _ y29 h25_ (weak_gen [0, 1] rfl rfl (sK rfl (rowLe_vals (valsLe.cons (cellsLe_refl rfl) valsLe.nil)) (sK rfl (rowLe_vals (valsLe.cons (cellsLe_refl rfl) valsLe.nil)) storeLe.nil)) (sQ rfl rfl))
         ·clear h25_ h50
          intro s26 hc52
          ((conv=>whnf);repeat((first|apply TT mix|apply sE rfl|apply dG (by kernel_rfl)|fail);(conv=>whnf)))
          refine br_b rfl hc52 (fun c53 hc52 => ?_) (fun c53 hc52 => ?_)
          ·have e := Option.some.inj hc52; subst e
           have e := done_out hs25; subst e
           have e := Option.some.inj hc46; subst e
           ((conv=>whnf);repeat((first|apply TT mix|apply sE rfl|apply dG (by kernel_rfl)|fail);(conv=>whnf)))
           exact And.intro (AV.Le.refl _) rfl
          ·have e := Option.some.inj hc52; subst e
           ((conv=>whnf);repeat((first|apply TT mix|apply sE rfl|apply dG (by kernel_rfl)|fail);(conv=>whnf)))
           exact hn25 _ (IntKind.wrap .i64 (s23 + (1 : Int))) hs25 (weak_gen [0, 1] rfl rfl (sK rfl (rowLe_vals (valsLe.cons (cellsLe_refl rfl) valsLe.nil)) (sK rfl (rowLe_vals (valsLe.cons (cellsLe_refl rfl) valsLe.nil)) storeLe.nil)) (sQ rfl rfl))
        ·have e := Option.some.inj h25_; subst e
         have e := done_out hs25; subst e
         ((conv=>whnf);repeat((first|apply TT mix|apply sE rfl|apply dG (by kernel_rfl)|fail);(conv=>whnf)))
         exact hn48 _ () hc46 (weak_gen [0, 1] rfl rfl (sK rfl (rowLe_vals (valsLe.cons (cellsLe_refl rfl) valsLe.nil)) (sK rfl (rowLe_vals (valsLe.cons (cellsLe_refl rfl) valsLe.nil)) storeLe.nil)) (sQ rfl rfl))
       ·clear hc46 h48
        intro s7 hc54
        ((conv=>whnf);repeat((first|apply TT mix|apply sE rfl|apply dG (by kernel_rfl)|fail);(conv=>whnf)))
        refine bnd hc54 (fun x55 h55 hc54 => ?_)
        refine cut_at (fun s9 : Bool => mkF 101 [(1, (.int .i64 p_i)), (2, (.mp 0 0 0)), (90, (.bool s9))] [some ⟨3, 26, (.vals [(e_api_Norm p_t)]), false, false⟩]) (fun s9 : Bool => m_eponymref04_row_K10 p_t p_i s9 = some r) ?_ ?_
        ·intro Kn55 hn55
         ((conv=>whnf);repeat((first|apply TT mix|apply sE rfl|apply dG (by kernel_rfl)|fail);(conv=>whnf)))
         refine br_b rfl h55 (fun c56 h55 => ?_) (fun c56 h55 => ?_)
         ·((conv=>whnf);repeat((first|apply TT mix|apply sE rfl|apply dG (by kernel_rfl)|fail);(conv=>whnf)))
          refine grd2 rfl rfl h55 (fun h55 => ?_)
          ((conv=>whnf);repeat((first|apply TT mix|apply sE rfl|apply dG (by kernel_rfl)|fail);(conv=>whnf)))
          refine bnd h55 (fun y21 hy21 h55 => ?_)
          refine Or.inl ⟨_, c_eponymref04_Row _ _ _ hy21, rfl, ?_⟩
          have e := Option.some.inj h55; subst e
          ((conv=>whnf);repeat((first|apply TT mix|apply sE rfl|apply dG (by kernel_rfl)|fail);(conv=>whnf)))
          exact hn55 _ (decide (y21 ≥ (0 : Int))) hc54 (weak_gen [0] rfl rfl (sK rfl (rowLe_vals (valsLe.cons (cellsLe_refl rfl) valsLe.nil)) storeLe.nil) (sQ rfl rfl))
         ·have e := Option.some.inj h55; subst e
          ((conv=>whnf);repeat((first|apply TT mix|apply sE rfl|apply dG (by kernel_rfl)|fail);(conv=>whnf)))
          exact hn55 _ false hc54 (weak_gen [0] rfl rfl (sK rfl (rowLe_vals (valsLe.cons (cellsLe_refl rfl) valsLe.nil)) storeLe.nil) (sQ rfl rfl))
        ·clear hc54 h55
         intro s9 hc57
         ((conv=>whnf);repeat((first|apply TT mix|apply sE rfl|apply dG (by kernel_rfl)|fail);(conv=>whnf)))
         refine br_b rfl hc57 (fun c58 hc57 => ?_) (fun c58 hc57 => ?_)
         ·have e := Option.some.inj hc57; subst e
          ((conv=>whnf);repeat((first|apply TT mix|apply sE rfl|apply dG (by kernel_rfl)|fail);(conv=>whnf)))
          exact And.intro (AV.Le.refl _) rfl
         ·((conv=>whnf);repeat((first|apply TT mix|apply sE rfl|apply dG (by kernel_rfl)|fail);(conv=>whnf)))
          refine bnd hc57 (fun x59 h59 hc57 => ?_)
          refine cut_at (fun s11 : Unit => mkF 101 [] []) (fun s11 : Unit => some (0 : Int) = some r) ?_ ?_
          ·intro Kn59 hn59
           ((conv=>whnf);repeat((first|apply TT mix|apply sE rfl|apply dG (by kernel_rfl)|fail);(conv=>whnf)))
           refine loop_iter (fun s14 : Int × Int => mkF 101 [(2, (.mp 0 0 0)), (7, (.int .i64 s14.1)), (8, (.int .i64 s14.2))] [some ⟨3, 26, (.vals [(e_api_Norm p_t)]), false, false⟩]) h59 (weak_gen [0] rfl rfl (sK rfl (rowLe_vals (valsLe.cons (cellsLe_refl rfl) valsLe.nil)) storeLe.nil) (sQ rfl rfl)) ?_
           intro k16 s14 st16 Kn16 hn16 h16_ hs16
           ((conv=>whnf);repeat((first|apply TT mix|apply sE rfl|apply dG (by kernel_rfl)|fail);(conv=>whnf)))
           refine br_b rfl h16_ (fun c60 h16_ => ?_) (fun c60 h16_ => ?_)
           ·((conv=>whnf);repeat((first|apply TT mix|apply sE rfl|apply dG (by kernel_rfl)|fail);(conv=>whnf)))
            refine br_b rfl h16_ (fun c61 h16_ => ?_) (fun c61 h16_ => ?_)
            ·have e := Option.some.inj h16_; subst e
             have e := done_out hs16; subst e
             have e := Option.some.inj hc57; subst e
             ((conv=>whnf);repeat((first|apply TT mix|apply sE rfl|apply dG (by kernel_rfl)|fail);(conv=>whnf)))
             exact And.intro (AV.Le.refl _) rfl
            ·((conv=>whnf);repeat((first|apply TT mix|apply sE rfl|apply dG (by kernel_rfl)|fail);(conv=>whnf)))
             refine bnd h16_ (fun y17 hy17 h16_ => ?_)
             refine Or.inl ⟨_, c_eponymref04_ahead _ _ _ hy17, rfl, ?_⟩
             have e := Option.some.inj h16_; subst e
             ((conv=>whnf);repeat((first|apply TT mix|apply sE rfl|apply dG (by kernel_rfl)|fail);(conv=>whnf)))
             exact hn16 _ ((IntKind.wrap .i64 (s14.1 + (1 : Int))), y17) hs16 (weak_gen [0] rfl rfl (sK rfl (rowLe_vals (valsLe.cons (cellsLe_refl rfl) valsLe.nil)) storeLe.nil) (sQ rfl rfl))
           ·have e := Option.some.inj h16_; subst e
            have e := done_out hs16; subst e
            ((conv=>whnf);repeat((first|apply TT mix|apply sE rfl|apply dG (by kernel_rfl)|fail);(conv=>whnf)))
            exact hn59 _ () hc57 (weak_gen [] rfl rfl storeLe.nil slotsLe.nil)
          ·clear hc57 h59
           intro s11 hc62
           have e := Option.some.inj hc62; subst e
           ((conv=>whnf);repeat((first|apply TT mix|apply sE rfl|apply dG (by kernel_rfl)|fail);(conv=>whnf)))
           exact And.intro (AV.Le.refl _) rfl
theorem c_eponymref03_May (p_x : T_api_Range) (r : Bool) (h : m_eponymref03_May p_x = some r) : Contract pl 48 [(e_api_Range p_x)] [] (AV.bool r) [] := by
 refine contract_of .z Tryz.func48 rfl (by kernel_rfl) ?_
 ((conv=>whnf);repeat((first|apply TT mix|apply sE rfl|apply dG (by kernel_rfl)|fail);(conv=>whnf)))
 refine br_b rfl h (fun c1 h => ?_) (fun c1 h => ?_)
 ·((conv=>whnf);repeat((first|apply TT mix|apply sE rfl|apply dG (by kernel_rfl)|fail);(conv=>whnf)))
  refine br_b rfl h (fun c2 h => ?_) (fun c2 h => ?_)
  ·((conv=>whnf);repeat((first|apply TT mix|apply sE rfl|apply dG (by kernel_rfl)|fail);(conv=>whnf)))
   refine br_b rfl h (fun c3 h => ?_) (fun c3 h => ?_)
   ·((conv=>whnf);repeat((first|apply TT mix|apply sE rfl|apply dG (by kernel_rfl)|fail);(conv=>whnf)))
    refine br_b rfl h (fun c4 h => ?_) (fun c4 h => ?_)
    ·have e := Option.some.inj h; subst e
     ((conv=>whnf);repeat((first|apply TT mix|apply sE rfl|apply dG (by kernel_rfl)|fail);(conv=>whnf)))
     exact And.intro (AV.Le.refl _) rfl
    ·have e := Option.some.inj h; subst e
     ((conv=>whnf);repeat((first|apply TT mix|apply sE rfl|apply dG (by kernel_rfl)|fail);(conv=>whnf)))
     exact And.intro (AV.Le.refl _) rfl
   ·have e := Option.some.inj h; subst e
    ((conv=>whnf);repeat((first|apply TT mix|apply sE rfl|apply dG (by kernel_rfl)|fail);(conv=>whnf)))
    exact And.intro (AV.Le.refl _) rfl
  ·have e := Option.some.inj h; subst e
   ((conv=>whnf);repeat((first|apply TT mix|apply sE rfl|apply dG (by kernel_rfl)|fail);(conv=>whnf)))
   exact And.intro (AV.Le.refl _) rfl
 ·have e := Option.some.inj h; subst e
  ((conv=>whnf);repeat((first|apply TT mix|apply sE rfl|apply dG (by kernel_rfl)|fail);(conv=>whnf)))
  exact And.intro (AV.Le.refl _) rfl
theorem c_eponymref03_Check (p_l : (List T_api_Range)) (r : Int × Int) (h : m_eponymref03_Check p_l = some r) : Contract pl 24 [(e_L_api_Range p_l)] [] (AV.tup [(AV.int .i64 r.1), (AV.int .i64 r.2)]) [] := by
 refine contract_of (.t false .z (.t false .z (.t true (.t false .z (.t false (.t false (.t false .z (.t false (.t false (.t false .z (.t true .z .z)) .z) .z)) .z) .z)) .z))) Tryz.func24 rfl (by kernel_rfl) ?_
 ((conv=>whnf);repeat((first|apply TT mix|apply sE rfl|apply dG (by kernel_rfl)|fail);(conv=>whnf)))
 refine br_b rfl h (fun c13 h => ?_) (fun c13 h => ?_)
 ·have e := Option.some.inj h; subst e
  ((conv=>whnf);repeat((first|apply TT mix|apply sE rfl|apply dG (by kernel_rfl)|fail);(conv=>whnf)))
  exact And.intro (AV.Le.refl _) rfl
 ·((conv=>whnf);repeat((first|apply TT mix|apply sE rfl|apply dG (by kernel_rfl)|fail);(conv=>whnf)))
  refine bnd h (fun x14 h14 h => ?_)
  refine cut_at (fun s1 : Unit => mkF 38 [] []) (fun s1 : Unit => some ((0 : Int), (0 : Int)) = some r) ?_ ?_
  ·intro Kn14 hn14
   ((conv=>whnf);repeat((first|apply TT mix|apply sE rfl|apply dG (by kernel_rfl)|fail);(conv=>whnf)))
   refine loop_iter (fun s4 : Int => mkF 38 [(0, (e_L_api_Range p_l)), (4, (.int .i64 s4))] []) h14 (weak_gen [] rfl rfl storeLe.nil (sQ rfl rfl)) ?_
   intro k6 s4 st6 Kn6 hn6 h6_ hs6
   ((conv=>whnf);repeat((first|apply TT mix|apply sE rfl|apply dG (by kernel_rfl)|fail);(conv=>whnf)))
   refine br_b rfl h6_ (fun c15 h6_ => ?_) (fun c15 h6_ => ?_)
   ·((conv=>whnf);repeat((first|apply TT mix|apply sE rfl|apply dG (by kernel_rfl)|fail);(conv=>whnf)))
    refine grd2 rfl rfl h6_ (fun h6_ => ?_)
    ((conv=>whnf);repeat((first|apply TT mix|apply sE rfl|apply dG (by kernel_rfl)|fail);(conv=>whnf)))
    refine bnd h6_ (fun y7 hy7 h6_ => ?_)
    refine Or.inl ⟨_, c_eponymref03_May _ _ hy7, rfl, ?_⟩
    ((conv=>whnf);repeat((first|apply TT mix|apply sE rfl|apply dG (by kernel_rfl)|fail);(conv=>whnf)))
    refine br_b rfl h6_ (fun c16 h6_ => ?_) (fun c16 h6_ => ?_)
    ·have e := Option.some.inj h6_; subst e
     have e := done_out hs6; subst e
     have e := Option.some.inj h; subst e
     ((conv=>whnf);repeat((first|apply TT mix|apply sE rfl|apply dG (by kernel_rfl)|fail);(conv=>whnf)))
     exact And.intro (AV.Le.refl _) rfl
    ·((conv=>whnf);repeat((first|apply TT mix|apply sE rfl|apply dG (by kernel_rfl)|fail);(conv=>whnf)))
     refine bnd h6_ (fun x17 h17 h6_ => ?_)
     refine cut_at (fun s8 : Bool => mkF 38 [(0, (e_L_api_Range p_l)), (4, (.int .i64 s4)), (36, (.bool s8))] []) (fun s8 : Bool => m_eponymref03_Check_K9 s4 s8 = some st6) ?_ ?_
     ·intro Kn17 hn17
      ((conv=>whnf);repeat((first|apply TT mix|apply sE rfl|apply dG (by kernel_rfl)|fail);(conv=>whnf)))
      refine br_b rfl h17 (fun c18 h17 => ?_) (fun c18 h17 => ?_)
      ·((conv=>whnf);repeat((first|apply TT mix|apply sE rfl|apply dG (by kernel_rfl)|fail);(conv=>whnf)))
       refine grd2 rfl rfl h17 (fun h17 => ?_)
       ((conv=>whnf);repeat((first|apply TT mix|apply sE rfl|apply dG (by kernel_rfl)|fail);(conv=>whnf)))
       refine grd2 rfl rfl h17 (fun h17 => ?_)
       have e := Option.some.inj h17; subst e
       ((conv=>whnf);repeat((first|apply TT mix|apply sE rfl|apply dG (by kernel_rfl)|fail);(conv=>whnf)))
       exact hn17 _ (decide ((p_l.getD (s4.toNat) d_api_Range).f_Lo ≤ (p_l.getD ((IntKind.wrap .i64 (s4 - (1 : Int))).toNat) d_api_Range).f_Hi)) h6_ (weak_gen [] rfl rfl storeLe.nil (sQ rfl rfl))
      ·have e := Option.some.inj h17; subst e
       ((conv=>whnf);repeat((first|apply TT mix|apply sE rfl|apply dG (by kernel_rfl)|fail);(conv=>whnf)))
       exact hn17 _ false h6_ (weak_gen [] rfl rfl storeLe.nil (sQ rfl rfl))
     ·clear h6_ h17
      intro s8 hc19
      ((conv=>whnf);repeat((first|apply TT mix|apply sE rfl|apply dG (by kernel_rfl)|fail);(conv=>whnf)))
      refine br_b rfl hc19 (fun c20 hc19 => ?_) (fun c20 hc19 => ?_)
      ·have e := Option.some.inj hc19; subst e
       have e := done_out hs6; subst e
       have e := Option.some.inj h; subst e
       ((conv=>whnf);repeat((first|apply TT mix|apply sE rfl|apply dG (by kernel_rfl)|fail);(conv=>whnf)))
       exact And.intro (AV.Le.refl _) rfl
      ·have e := Option.some.inj hc19; subst e
       ((conv=>whnf);repeat((first|apply TT mix|apply sE rfl|apply dG (by kernel_rfl)|fail);(conv=>whnf)))
       exact hn6 _ (IntKind.wrap .i64 (s4 + (1 : Int))) hs6 (weak_gen [] rfl rfl storeLe.nil (sQ rfl rfl))
   ·have e := Option.some.inj h6_; subst e
    have e := done_out hs6; subst e
    ((conv=>whnf);repeat((first|apply TT mix|apply sE rfl|apply dG (by kernel_rfl)|fail);(conv=>whnf)))
    exact hn14 _ () h (weak_gen [] rfl rfl storeLe.nil slotsLe.nil)
  ·clear h h14
   intro s1 hc21
   have e := Option.some.inj hc21; subst e
   ((conv=>whnf);repeat((first|apply TT mix|apply sE rfl|apply dG (by kernel_rfl)|fail);(conv=>whnf)))
   exact And.intro (AV.Le.refl _) rfl
theorem c_eponymref04_excluded (p_t : T_api_Norm) (p_r : Int) (r : Bool) (h : m_eponymref04_excluded p_t p_r = some r) : Contract pl 49 [(e_api_Norm p_t), (AV.int .i32 p_r)] [] (AV.bool r) [] := by
 refine contract_of (.t false .z (.t true .z .z)) Tryz.func49 rfl (by kernel_rfl) ?_
 ((conv=>whnf);repeat((first|apply TT mix|apply sE rfl|apply dG (by kernel_rfl)|fail);(conv=>whnf)))
 refine bnd h (fun x10 h10 h => ?_)
 refine cut_at (fun s1 : Unit => mkF 20 [] []) (fun s1 : Unit => some false = some r) ?_ ?_
 ·intro Kn10 hn10
  ((conv=>whnf);repeat((first|apply TT mix|apply sE rfl|apply dG (by kernel_rfl)|fail);(conv=>whnf)))
  refine loop_iter (fun s4 : Int => mkF 20 [(1, (.int .i32 p_r)), (2, (.mp 0 0 0)), (5, (.int .i64 s4))] [some ⟨3, 26, (.vals [(e_api_Norm p_t)]), false, false⟩]) h10 (weak_gen [0] rfl rfl (sK rfl (rowLe_vals (valsLe.cons (cellsLe_refl rfl) valsLe.nil)) storeLe.nil) (sQ rfl rfl)) ?_
  intro k6 s4 st6 Kn6 hn6 h6_ hs6
  ((conv=>whnf);repeat((first|apply TT mix|apply sE rfl|apply dG (by kernel_rfl)|fail);(conv=>whnf)))
  refine br_b rfl h6_ (fun c11 h6_ => ?_) (fun c11 h6_ => ?_)
  ·((conv=>whnf);repeat((first|apply TT mix|apply sE rfl|apply dG (by kernel_rfl)|fail);(conv=>whnf)))
   refine grd2 rfl rfl h6_ (fun h6_ => ?_)
   ((conv=>whnf);repeat((first|apply TT mix|apply sE rfl|apply dG (by kernel_rfl)|fail);(conv=>whnf)))
   refine br_b rfl h6_ (fun c12 h6_ => ?_) (fun c12 h6_ => ?_)
   ·have e := Option.some.inj h6_; subst e
    have e := done_out hs6; subst e
    have e := Option.some.inj h; subst e
    ((conv=>whnf);repeat((first|apply TT mix|apply sE rfl|apply dG (by kernel_rfl)|fail);(conv=>whnf)))
    exact And.intro (AV.Le.refl _) rfl
   ·have e := Option.some.inj h6_; subst e
    ((conv=>whnf);repeat((first|apply TT mix|apply sE rfl|apply dG (by kernel_rfl)|fail);(conv=>whnf)))
    exact hn6 _ (IntKind.wrap .i64 (s4 + (1 : Int))) hs6 (weak_gen [0] rfl rfl (sK rfl (rowLe_vals (valsLe.cons (cellsLe_refl rfl) valsLe.nil)) storeLe.nil) (sQ rfl rfl))
  ·have e := Option.some.inj h6_; subst e
   have e := done_out hs6; subst e
   ((conv=>whnf);repeat((first|apply TT mix|apply sE rfl|apply dG (by kernel_rfl)|fail);(conv=>whnf)))
   exact hn10 _ () h (weak_gen [] rfl rfl storeLe.nil slotsLe.nil)
 ·clear h h10
  intro s1 hc13
  have e := Option.some.inj hc13; subst e
  ((conv=>whnf);repeat((first|apply TT mix|apply sE rfl|apply dG (by kernel_rfl)|fail);(conv=>whnf)))
  exact And.intro (AV.Le.refl _) rfl
theorem c_eponymref03_Find (p_l : (List T_api_Range)) (p_r : Int) (r : Int × Bool) (h : m_eponymref03_Find p_l p_r = some r) : Contract pl 69 [(e_L_api_Range p_l), (AV.int .i32 p_r)] [] (AV.tup [(AV.int .i64 r.1), (AV.bool r.2)]) [] := by
 refine contract_of (.t false .z (.t true (.t false .z (.t false (.t false (.t false .z (.t false (.t false (.t true .z .z) .z) .z)) .z) .z)) .z)) Tryz.func69 rfl (by kernel_rfl) ?_
 ((conv=>whnf);repeat((first|apply TT mix|apply sE rfl|apply dG (by kernel_rfl)|fail);(conv=>whnf)))
 refine bnd h (fun x12 h12 h => ?_)
 refine cut_at (fun s1 : Unit => mkF 34 [] []) (fun s1 : Unit => some ((0 : Int), false) = some r) ?_ ?_
 ·intro Kn12 hn12
  ((conv=>whnf);repeat((first|apply TT mix|apply sE rfl|apply dG (by kernel_rfl)|fail);(conv=>whnf)))
  refine loop_iter (fun s4 : Int => mkF 34 [(0, (e_L_api_Range p_l)), (1, (.int .i32 p_r)), (6, (.int .i64 s4))] []) h12 (weak_gen [] rfl rfl storeLe.nil (sQ rfl rfl)) ?_
  intro k6 s4 st6 Kn6 hn6 h6_ hs6
  ((conv=>whnf);repeat((first|apply TT mix|apply sE rfl|apply dG (by kernel_rfl)|fail);(conv=>whnf)))
  refine br_b rfl h6_ (fun c13 h6_ => ?_) (fun c13 h6_ => ?_)
  ·((conv=>whnf);repeat((first|apply TT mix|apply sE rfl|apply dG (by kernel_rfl)|fail);(conv=>whnf)))
   refine bnd h6_ (fun x14 h14 h6_ => ?_)
   refine cut_at (fun s7 : Bool => mkF 34 [(0, (e_L_api_Range p_l)), (1, (.int .i32 p_r)), (6, (.int .i64 s4)), (28, (.bool s7))] []) (fun s7 : Bool => m_eponymref03_Find_K8 p_l s4 s7 = some st6) ?_ ?_
   ·intro Kn14 hn14
    ((conv=>whnf);repeat((first|apply TT mix|apply sE rfl|apply dG (by kernel_rfl)|fail);(conv=>whnf)))
    refine grd2 rfl rfl h14 (fun h14 => ?_)
    ((conv=>whnf);repeat((first|apply TT mix|apply sE rfl|apply dG (by kernel_rfl)|fail);(conv=>whnf)))
    refine br_b rfl h14 (fun c15 h14 => ?_) (fun c15 h14 => ?_)
    ·((conv=>whnf);repeat((first|apply TT mix|apply sE rfl|apply dG (by kernel_rfl)|fail);(conv=>whnf)))
     refine grd2 rfl rfl h14 (fun h14 => ?_)
     have e := Option.some.inj h14; subst e
     ((conv=>whnf);repeat((first|apply TT mix|apply sE rfl|apply dG (by kernel_rfl)|fail);(conv=>whnf)))
     exact hn14 _ (decide (p_r ≤ (p_l.getD (s4.toNat) d_api_Range).f_Hi)) h6_ (weak_gen [] rfl rfl storeLe.nil (sQ rfl rfl))
    ·have e := Option.some.inj h14; subst e
     ((conv=>whnf);repeat((first|apply TT mix|apply sE rfl|apply dG (by kernel_rfl)|fail);(conv=>whnf)))
     exact hn14 _ false h6_ (weak_gen [] rfl rfl storeLe.nil (sQ rfl rfl))
   ·clear h6_ h14
    intro s7 hc16
    ((conv=>whnf);repeat((first|apply TT mix|apply sE rfl|apply dG (by kernel_rfl)|fail);(conv=>whnf)))
    refine br_b rfl hc16 (fun c17 hc16 => ?_) (fun c17 hc16 => ?_)
    ·((conv=>whnf);repeat((first|apply TT mix|apply sE rfl|apply dG (by kernel_rfl)|fail);(conv=>whnf)))
     refine grd2 rfl rfl hc16 (fun hc16 => ?_)
     have e := Option.some.inj hc16; subst e
     have e := done_out hs6; subst e
     have e := Option.some.inj h; subst e
     ((conv=>whnf);repeat((first|apply TT mix|apply sE rfl|apply dG (by kernel_rfl)|fail);(conv=>whnf)))
     exact And.intro (AV.Le.refl _) rfl
    ·have e := Option.some.inj hc16; subst e
     ((conv=>whnf);repeat((first|apply TT mix|apply sE rfl|apply dG (by kernel_rfl)|fail);(conv=>whnf)))
     exact hn6 _ (IntKind.wrap .i64 (s4 + (1 : Int))) hs6 (weak_gen [] rfl rfl storeLe.nil (sQ rfl rfl))
  ·have e := Option.some.inj h6_; subst e
   have e := done_out hs6; subst e
   ((conv=>whnf);repeat((first|apply TT mix|apply sE rfl|apply dG (by kernel_rfl)|fail);(conv=>whnf)))
   exact hn12 _ () h (weak_gen [] rfl rfl storeLe.nil slotsLe.nil)
 ·clear h h12
  intro s1 hc18
  have e := Option.some.inj hc18; subst e
  ((conv=>whnf);repeat((first|apply TT mix|apply sE rfl|apply dG (by kernel_rfl)|fail);(conv=>whnf)))
  exact And.intro (AV.Le.refl _) rfl
theorem c_eponymref04_Class (p_t : T_api_Norm) (p_r : Int) (r : Int) (h : m_eponymref04_Class p_t p_r = some r) : Contract pl 50 [(e_api_Norm p_t), (AV.int .i32 p_r)] [] (AV.int .i64 r) [] := by
 refine contract_of .z Tryz.func50 rfl (by kernel_rfl) ?_
 ((conv=>whnf);repeat((first|apply TT mix|apply sE rfl|apply dG (by kernel_rfl)|fail);(conv=>whnf)))
 refine bnd h (fun y1 hy1 h => ?_)
 refine Or.inl ⟨_, c_eponymref03_Find _ _ _ hy1, rfl, ?_⟩
 have e := Option.some.inj h; subst e
 ((conv=>whnf);repeat((first|apply TT mix|apply sE rfl|apply dG (by kernel_rfl)|fail);(conv=>whnf)))
 exact And.intro (AV.Le.refl _) rfl
theorem c_eponymref04_Composes (p_t : T_api_Norm) (p_i : Int) (r : Bool) (h : m_eponymref04_Composes p_t p_i = some r) : Contract pl 27 [(e_api_Norm p_t), (AV.int .i64 p_i)] [] (AV.bool r) [] := by
 refine contract_of (.t false .z (.t false (.t true .z .z) .z)) Tryz.func27 rfl (by kernel_rfl) ?_
 ((conv=>whnf);repeat((first|apply TT mix|apply sE rfl|apply dG (by kernel_rfl)|fail);(conv=>whnf)))
 refine bnd h (fun x6 h6 h => ?_)
 refine cut_at (fun s1 : Bool => mkF 57 [(1, (.int .i64 p_i)), (2, (.mp 0 0 0)), (23, (.bool s1))] [some ⟨3, 26, (.vals [(e_api_Norm p_t)]), false, false⟩]) (fun s1 : Bool => m_eponymref04_Composes_K2 p_t p_i s1 = some r) ?_ ?_
 ·intro Kn6 hn6
  ((conv=>whnf);repeat((first|apply TT mix|apply sE rfl|apply dG (by kernel_rfl)|fail);(conv=>whnf)))
  refine br_b rfl h6 (fun c7 h6 => ?_) (fun c7 h6 => ?_)
  ·have e := Option.some.inj h6; subst e
   ((conv=>whnf);repeat((first|apply TT mix|apply sE rfl|apply dG (by kernel_rfl)|fail);(conv=>whnf)))
   exact hn6 _ true h (weak_gen [0] rfl rfl (sK rfl (rowLe_vals (valsLe.cons (cellsLe_refl rfl) valsLe.nil)) storeLe.nil) (sQ rfl rfl))
  ·((conv=>whnf);repeat((first|apply TT mix|apply sE rfl|apply dG (by kernel_rfl)|fail);(conv=>whnf)))
   refine br_b rfl h6 (fun c8 h6 => ?_) (fun c8 h6 => ?_)
   ·have e := Option.some.inj h6; subst e
    ((conv=>whnf);repeat((first|apply TT mix|apply sE rfl|apply dG (by kernel_rfl)|fail);(conv=>whnf)))
    exact hn6 _ true h (weak_gen [0] rfl rfl (sK rfl (rowLe_vals (valsLe.cons (cellsLe_refl rfl) valsLe.nil)) storeLe.nil) (sQ rfl rfl))
   ·((conv=>whnf);repeat((first|apply TT mix|apply sE rfl|apply dG (by kernel_rfl)|fail);(conv=>whnf)))
    refine grd2 rfl rfl h6 (fun h6 => ?_)
    have e := Option.some.inj h6; subst e
    ((conv=>whnf);repeat((first|apply TT mix|apply sE rfl|apply dG (by kernel_rfl)|fail);(conv=>whnf)))
    exact hn6 _ ((((p_t.f_Rows.getD (p_i.toNat) d_api_Row).f_To.length : Nat) : Int) != (2 : Int)) h (weak_gen [0] rfl rfl (sK rfl (rowLe_vals (valsLe.cons (cellsLe_refl rfl) valsLe.nil)) storeLe.nil) (sQ rfl rfl))
 ·clear h h6
  intro s1 hc9
  ((conv=>whnf);repeat((first|apply TT mix|apply sE rfl|apply dG (by kernel_rfl)|fail);(conv=>whnf)))
  refine br_b rfl hc9 (fun c10 hc9 => ?_) (fun c10 hc9 => ?_)
  ·have e := Option.some.inj hc9; subst e
   ((conv=>whnf);repeat((first|apply TT mix|apply sE rfl|apply dG (by kernel_rfl)|fail);(conv=>whnf)))
   exact And.intro (AV.Le.refl _) rfl
  ·((conv=>whnf);repeat((first|apply TT mix|apply sE rfl|apply dG (by kernel_rfl)|fail);(conv=>whnf)))
   refine grd2 rfl rfl hc9 (fun hc9 => ?_)
   ((conv=>whnf);repeat((first|apply TT mix|apply sE rfl|apply dG (by kernel_rfl)|fail);(conv=>whnf)))
   refine bnd hc9 (fun y3 hy3 hc9 => ?_)
   refine Or.inl ⟨_, c_eponymref04_excluded _ _ _ hy3, rfl, ?_⟩
   ((conv=>whnf);repeat((first|apply TT mix|apply sE rfl|apply dG (by kernel_rfl)|fail);(conv=>whnf)))
   refine br_b rfl hc9 (fun c11 hc9 => ?_) (fun c11 hc9 => ?_)
   ·((conv=>whnf);repeat((first|apply TT mix|apply sE rfl|apply dG (by kernel_rfl)|fail);(conv=>whnf)))
    refine grd2 rfl rfl hc9 (fun hc9 => ?_)
    ((conv=>whnf);repeat((first|apply TT mix|apply sE rfl|apply dG (by kernel_rfl)|fail);(conv=>whnf)))
    refine bnd hc9 (fun y4 hy4 hc9 => ?_)
    refine Or.inl ⟨_, c_eponymref04_Class _ _ _ hy4, rfl, ?_⟩
    ((conv=>whnf);repeat((first|apply TT mix|apply sE rfl|apply dG (by kernel_rfl)|fail);(conv=>whnf)))
    refine br_b rfl hc9 (fun c12 hc9 => ?_) (fun c12 hc9 => ?_)
    ·((conv=>whnf);repeat((first|apply TT mix|apply sE rfl|apply dG (by kernel_rfl)|fail);(conv=>whnf)))
     refine grd2 rfl rfl hc9 (fun hc9 => ?_)
     ((conv=>whnf);repeat((first|apply TT mix|apply sE rfl|apply dG (by kernel_rfl)|fail);(conv=>whnf)))
     refine grd2 rfl rfl hc9 (fun hc9 => ?_)
     ((conv=>whnf);repeat((first|apply TT mix|apply sE rfl|apply dG (by kernel_rfl)|fail);(conv=>whnf)))
     refine bnd hc9 (fun y5 hy5 hc9 => ?_)
     refine Or.inl ⟨_, c_eponymref04_Class _ _ _ hy5, rfl, ?_⟩
     have e := Option.some.inj hc9; subst e
     ((conv=>whnf);repeat((first|apply TT mix|apply sE rfl|apply dG (by kernel_rfl)|fail);(conv=>whnf)))
     exact And.intro (AV.Le.refl _) rfl
    ·have e := Option.some.inj hc9; subst e
     ((conv=>whnf);repeat((first|apply TT mix|apply sE rfl|apply dG (by kernel_rfl)|fail);(conv=>whnf)))
     exact And.intro (AV.Le.refl _) rfl
   ·have e := Option.some.inj hc9; subst e
    ((conv=>whnf);repeat((first|apply TT mix|apply sE rfl|apply dG (by kernel_rfl)|fail);(conv=>whnf)))
    exact And.intro (AV.Le.refl _) rfl
theorem c_eponymref04_Check (p_t : T_api_Norm) (r : Int × Int) (h : m_eponymref04_Check p_t = some r) : Contract pl 12 [(e_api_Norm p_t)] [] (AV.tup [(AV.int .i64 r.1), (AV.int .i64 r.2)]) [] := by
 refine contract_of (.t false .z (.t false (.t true .z .z) (.t true .z (.t false .z (.t true (.t false .z (.t false (.t false (.t false .z (.t true (.t false (.t false (.t true .z .z) .z) .z) .z)) .z) .z)) (.t true (.t false .z (.t false (.t false (.t false .z (.t false (.t false (.t false .z (.t true .z .z)) .z) .z)) .z) .z)) (.t true (.t false .z (.t false (.t false (.t false .z (.t true (.t false (.t false .z (.t false (.t false (.t false .z (.t false (.t false (.t true .z .z) .z) .z)) .z) .z)) .z) .z)) .z) .z)) .z))))))) Tryz.func12 rfl (by kernel_rfl) ?_
 ((conv=>whnf);repeat((first|apply TT mix|apply sE rfl|apply dG (by kernel_rfl)|fail);(conv=>whnf)))
 refine bnd h (fun x69 h69 h => ?_)
 refine cut_at (fun s1 : Bool => mkF 181 [(1, (.mp 0 0 0)), (22, (.bool s1))] [some ⟨3, 26, (.vals [(e_api_Norm p_t)]), false, false⟩]) (fun s1 : Bool => m_eponymref04_Check_K2 p_t s1 = some r) ?_ ?_
 ·intro Kn69 hn69
  ((conv=>whnf);repeat((first|apply TT mix|apply sE rfl|apply dG (by kernel_rfl)|fail);(conv=>whnf)))
  refine br_b rfl h69 (fun c70 h69 => ?_) (fun c70 h69 => ?_)
  ·have e := Option.some.inj h69; subst e
   ((conv=>whnf);repeat((first|apply TT mix|apply sE rfl|apply dG (by kernel_rfl)|fail);(conv=>whnf)))
   exact hn69 _ true h (weak_gen [0] rfl rfl (sK rfl (rowLe_vals (valsLe.cons (cellsLe_refl rfl) valsLe.nil)) storeLe.nil) (sQ rfl rfl))
  ·have e := Option.some.inj h69; subst e
   ((conv=>whnf);repeat((first|apply TT mix|apply sE rfl|apply dG (by kernel_rfl)|fail);(conv=>whnf)))
   exact hn69 _ (decide (((p_t.f_Excluded.length : Nat) : Int) > (2000 : Int))) h (weak_gen [0] rfl rfl (sK rfl (rowLe_vals (valsLe.cons (cellsLe_refl rfl) valsLe.nil)) storeLe.nil) (sQ rfl rfl))
 ·clear h h69
  intro s1 hc71
  ((conv=>whnf);repeat((first|apply TT mix|apply sE rfl|apply dG (by kernel_rfl)|fail);(conv=>whnf)))
  refine br_b rfl hc71 (fun c72 hc71 => ?_) (fun c72 hc71 => ?_)
  ·have e := Option.some.inj hc71; subst e
   ((conv=>whnf);repeat((first|apply TT mix|apply sE rfl|apply dG (by kernel_rfl)|fail);(conv=>whnf)))
   exact And.intro (AV.Le.refl _) rfl
  ·((conv=>whnf);repeat((first|apply TT mix|apply sE rfl|apply dG (by kernel_rfl)|fail);(conv=>whnf)))
   refine bnd hc71 (fun x73 h73 hc71 => ?_)
   refine cut_at (fun s3 : Unit => mkF 181 [(1, (.mp 0 0 0))] [some ⟨3, 26, (.vals [(e_api_Norm p_t)]), false, false⟩]) (fun s3 : Unit => m_eponymref04_Check_K4 p_t s3 = some r) ?_ ?_
   ·intro Kn73 hn73
    ((conv=>whnf);repeat((first|apply TT mix|apply sE rfl|apply dG (by kernel_rfl)|fail);(conv=>whnf)))
    refine loop_iter (fun s62 : Int => mkF 181 [(1, (.mp 0 0 0)), (4, (.int .i64 s62))] [some ⟨3, 26, (.vals [(e_api_Norm p_t)]), false, false⟩]) h73 (weak_gen [0] rfl rfl (sK rfl (rowLe_vals (valsLe.cons (cellsLe_refl rfl) valsLe.nil)) storeLe.nil) (sQ rfl rfl)) ?_
    intro k64 s62 st64 Kn64 hn64 h64_ hs64
    ((conv=>whnf);repeat((first|apply TT mix|apply sE rfl|apply dG (by kernel_rfl)|fail);(conv=>whnf)))
    refine br_b rfl h64_ (fun c74 h64_ => ?_) (fun c74 h64_ => ?_)
    ·((conv=>whnf);repeat((first|apply TT mix|apply sE rfl|apply dG (by kernel_rfl)|fail);(conv=>whnf)))
     refine bnd h64_ (fun y65 hy65 h64_ => ?_)
     refine Or.inl ⟨_, c_eponymref04_row _ _ _ hy65, rfl, ?_⟩
     ((conv=>whnf);repeat((first|apply TT mix|apply sE rfl|apply dG (by kernel_rfl)|fail);(conv=>whnf)))
     refine br_b rfl h64_ (fun c75 h64_ => ?_) (fun c75 h64_ => ?_)
     ·have e := Option.some.inj h64_; subst e
      have e := done_out hs64; subst e
      have e := Option.some.inj hc71; subst e
      ((conv=>whnf);repeat((first|apply TT mix|apply sE rfl|apply dG (by kernel_rfl)|fail);(conv=>whnf)))
      exact And.intro (AV.Le.refl _) rfl
     ·have e := Option.some.inj h64_; subst e
      ((conv=>whnf);repeat((first|apply TT mix|apply sE rfl|apply dG (by kernel_rfl)|fail);(conv=>whnf)))
      exact hn64 _ (IntKind.wrap .i64 (s62 + (1 : Int))) hs64 (weak_gen [0] rfl rfl (sK rfl (rowLe_vals (valsLe.cons (cellsLe_refl rfl) valsLe.nil)) storeLe.nil) (sQ rfl rfl))
    ·have e := Option.some.inj h64_; subst e
     have e := done_out hs64; subst e
     ((conv=>whnf);repeat((first|apply TT mix|apply sE rfl|apply dG (by kernel_rfl)|fail);(conv=>whnf)))
     exact hn73 _ () hc71 (weak_gen [0] rfl rfl (sK rfl (rowLe_vals (valsLe.cons (cellsLe_refl rfl) valsLe.nil)) storeLe.nil) (slotsLe.cons (cR rfl rfl) slotsLe.nil))
   ·clear hc71 h73
    intro s3 hc76
    ((conv=>whnf);repeat((first|apply TT mix|apply sE rfl|apply dG (by kernel_rfl)|fail);(conv=>whnf)))
    refine bnd hc76 (fun y5 hy5 hc76 => ?_)
    refine Or.inl ⟨_, c_eponymref03_Check _ _ hy5, rfl, ?_⟩
    ((conv=>whnf);repeat((first|apply TT mix|apply sE rfl|apply dG (by kernel_rfl)|fail);(conv=>whnf)))
    refine br_b rfl hc76 (fun c77 hc76 => ?_) (fun c77 hc76 => ?_)
    ·have e := Option.some.inj hc76; subst e
     ((conv=>whnf);repeat((first|apply TT mix|apply sE rfl|apply dG (by kernel_rfl)|fail);(conv=>whnf)))
     exact And.intro (AV.Le.refl _) rfl
    ·((conv=>whnf);repeat((first|apply TT mix|apply sE rfl|apply dG (by kernel_rfl)|fail);(conv=>whnf)))
     refine bnd hc76 (fun x78 h78 hc76 => ?_)
     refine cut_at (fun s6 : Unit => mkF 181 [(1, (.mp 0 0 0))] [some ⟨3, 26, (.vals [(e_api_Norm p_t)]), false, false⟩]) (fun s6 : Unit => m_eponymref04_Check_K7 p_t s6 = some r) ?_ ?_
     ·intro Kn78 hn78
      ((conv=>whnf);repeat((first|apply TT mix|apply sE rfl|apply dG (by kernel_rfl)|fail);(conv=>whnf)))
      refine loop_iter (fun s43 : Int => mkF 181 [(1, (.mp 0 0 0)), (8, (.int .i64 s43))] [some ⟨3, 26, (.vals [(e_api_Norm p_t)]), false, false⟩]) h78 (weak_gen [0] rfl rfl (sK rfl (rowLe_vals (valsLe.cons (cellsLe_refl rfl) valsLe.nil)) storeLe.nil) (sQ rfl rfl)) ?_
      intro k45 s43 st45 Kn45 hn45 h45_ hs45
      ((conv=>whnf);repeat((first|apply TT mix|apply sE rfl|apply dG (by kernel_rfl)|fail);(conv=>whnf)))
      refine br_b rfl h45_ (fun c79 h45_ => ?_) (fun c79 h45_ => ?_)
      ·((conv=>whnf);repeat((first|apply TT mix|apply sE rfl|apply dG (by kernel_rfl)|fail);(conv=>whnf)))
       refine bnd h45_ (fun x80 h80 h45_ => ?_)
       refine cut_at (fun s46 : Unit => mkF 181 [(1, (.mp 0 0 0)), (8, (.int .i64 s43))] [some ⟨3, 26, (.vals [(e_api_Norm p_t)]), false, false⟩]) (fun s46 : Unit => some (.next (IntKind.wrap .i64 (s43 + (1 : Int)))) = some st45) ?_ ?_
       ·intro Kn80 hn80
        ((conv=>whnf);repeat((first|apply TT mix|apply sE rfl|apply dG (by kernel_rfl)|fail);(conv=>whnf)))
        refine bnd h80 (fun x81 h81 h80 => ?_)
        refine cut_at (fun s48 : Bool => mkF 181 [(1, (.mp 0 0 0)), (8, (.int .i64 s43)), (69, (.bool s48))] [some ⟨3, 26, (.vals [(e_api_Norm p_t)]), false, false⟩]) (fun s48 : Bool => m_eponymref04_Check_K49 p_t s43 s48 = some x80) ?_ ?_
        ·intro Kn81 hn81
         ((conv=>whnf);repeat((first|apply TT mix|apply sE rfl|apply dG (by kernel_rfl)|fail);(conv=>whnf)))
         refine grd2 rfl rfl h81 (fun h81 => ?_)
         ((conv=>whnf);repeat((first|apply TT mix|apply sE rfl|apply dG (by kernel_rfl)|fail);(conv=>whnf)))
         refine br_b rfl h81 (fun c82 h81 => ?_) (fun c82 h81 => ?_)
         ·have e := Option.some.inj h81; subst e
          ((conv=>whnf);repeat((first|apply TT mix|apply sE rfl|apply dG (by kernel_rfl)|fail);(conv=>whnf)))
          exact hn81 _ true h80 (weak_gen [0] rfl rfl (sK rfl (rowLe_vals (valsLe.cons (cellsLe_refl rfl) valsLe.nil)) storeLe.nil) (sQ rfl rfl))
         ·((conv=>whnf);repeat((first|apply TT mix|apply sE rfl|apply dG (by kernel_rfl)|fail);(conv=>whnf)))
          refine grd2 rfl rfl h81 (fun h81 => ?_)
          have e := Option.some.inj h81; subst e
          ((conv=>whnf);repeat((first|apply TT mix|apply sE rfl|apply dG (by kernel_rfl)|fail);(conv=>whnf)))
          exact hn81 _ (decide ((p_t.f_Classes.getD (s43.toNat) d_api_Range).f_Value > (254 : Int))) h80 (weak_gen [0] rfl rfl (sK rfl (rowLe_vals (valsLe.cons (cellsLe_refl rfl) valsLe.nil)) storeLe.nil) (sQ rfl rfl))
        ·clear h80 h81
         intro s48 hc83
         ((conv=>whnf);repeat((first|apply TT mix|apply sE rfl|apply dG (by kernel_rfl)|fail);(conv=>whnf)))
         refine br_b rfl hc83 (fun c84 hc83 => ?_) (fun c84 hc83 => ?_)
         ·have e := Option.some.inj hc83; subst e
          have e := Option.some.inj h45_; subst e
          have e := done_out hs45; subst e
          have e := Option.some.inj hc76; subst e
          ((conv=>whnf);repeat((first|apply TT mix|apply sE rfl|apply dG (by kernel_rfl)|fail);(conv=>whnf)))
          exact And.intro (AV.Le.refl _) rfl
         ·((conv=>whnf);repeat((first|apply TT mix|apply sE rfl|apply dG (by kernel_rfl)|fail);(conv=>whnf)))
          refine grd2 rfl rfl hc83 (fun hc83 => ?_)
          ((conv=>whnf);repeat((first|apply TT mix|apply sE rfl|apply dG (by kernel_rfl)|fail);(conv=>whnf)))
          refine bnd hc83 (fun x53 hx53 hc83 => ?_)
          refine loop_iter (fun s51 : Int => mkF 181 [(1, (.mp 0 0 0)), (8, (.int .i64 s43)), (9, (.int .i32 s51))] [some ⟨3, 26, (.vals [(e_api_Norm p_t)]), false, false⟩]) hx53 (weak_gen [0] rfl rfl (sK rfl (rowLe_vals (valsLe.cons (cellsLe_refl rfl) valsLe.nil)) storeLe.nil) (sQ rfl rfl)) ?_
          intro k53 s51 st53 Kn53 hn53 h53 hs53
          ((conv=>whnf);repeat((first|apply TT mix|apply sE rfl|apply dG (by kernel_rfl)|fail);(conv=>whnf)))
          refine grd2 rfl rfl h53 (fun h53 => ?_)
          ((conv=>whnf);repeat((first|apply TT mix|apply sE rfl|apply dG (by kernel_rfl)|fail);(conv=>whnf)))
          refine br_b rfl h53 (fun c85 h53 => ?_) (fun c85 h53 => ?_)
          ·((conv=>whnf);repeat((first|apply TT mix|apply sE rfl|apply dG (by kernel_rfl)|fail);(conv=>whnf)))
           refine bnd h53 (fun y54 hy54 h53 => ?_)
           refine Or.inl ⟨_, c_eponymref04_hangul _ _ hy54, rfl, ?_⟩
           ((conv=>whnf);repeat((first|apply TT mix|apply sE rfl|apply dG (by kernel_rfl)|fail);(conv=>whnf)))
           refine br_b rfl h53 (fun c86 h53 => ?_) (fun c86 h53 => ?_)
           ·have e := Option.some.inj h53; subst e
            have e := done_out hs53; subst e
            have e := Option.some.inj hc83; subst e
            have e := Option.some.inj h45_; subst e
            have e := done_out hs45; subst e
            have e := Option.some.inj hc76; subst e
            ((conv=>whnf);repeat((first|apply TT mix|apply sE rfl|apply dG (by kernel_rfl)|fail);(conv=>whnf)))
            exact And.intro (AV.Le.refl _) rfl
           ·have e := Option.some.inj h53; subst e
            ((conv=>whnf);repeat((first|apply TT mix|apply sE rfl|apply dG (by kernel_rfl)|fail);(conv=>whnf)))
            exact hn53 _ (IntKind.wrap .i32 (s51 + (1 : Int))) hs53 (weak_gen [0] rfl rfl (sK rfl (rowLe_vals (valsLe.cons (cellsLe_refl rfl) valsLe.nil)) storeLe.nil) (sQ rfl rfl))
          ·have e := Option.some.inj h53; subst e
           have e := done_out hs53; subst e
           have e := Option.some.inj hc83; subst e
           ((conv=>whnf);repeat((first|apply TT mix|apply sE rfl|apply dG (by kernel_rfl)|fail);(conv=>whnf)))
           exact hn80 _ () h45_ (weak_gen [0] rfl rfl (sK rfl (rowLe_vals (valsLe.cons (cellsLe_refl rfl) valsLe.nil)) storeLe.nil) (sQ rfl rfl))
       ·clear h45_ h80
        intro s46 hc87
        have e := Option.some.inj hc87; subst e
        ((conv=>whnf);repeat((first|apply TT mix|apply sE rfl|apply dG (by kernel_rfl)|fail);(conv=>whnf)))
        exact hn45 _ (IntKind.wrap .i64 (s43 + (1 : Int))) hs45 (weak_gen [0] rfl rfl (sK rfl (rowLe_vals (valsLe.cons (cellsLe_refl rfl) valsLe.nil)) storeLe.nil) (sQ rfl rfl))
      ·have e := Option.some.inj h45_; subst e
       have e := done_out hs45; subst e
       ((conv=>whnf);repeat((first|apply TT mix|apply sE rfl|apply dG (by kernel_rfl)|fail);(conv=>whnf)))
       exact hn78 _ () hc76 (weak_gen [0] rfl rfl (sK rfl (rowLe_vals (valsLe.cons (cellsLe_refl rfl) valsLe.nil)) storeLe.nil) (slotsLe.cons (cR rfl rfl) slotsLe.nil))
     ·clear hc76 h78
      intro s6 hc88
      ((conv=>whnf);repeat((first|apply TT mix|apply sE rfl|apply dG (by kernel_rfl)|fail);(conv=>whnf)))
      refine bnd hc88 (fun x89 h89 hc88 => ?_)
      refine cut_at (fun s8 : Unit => mkF 181 [(1, (.mp 0 0 0))] [some ⟨3, 26, (.vals [(e_api_Norm p_t)]), false, false⟩]) (fun s8 : Unit => m_eponymref04_Check_K9 p_t s8 = some r) ?_ ?_
      ·intro Kn89 hn89
       ((conv=>whnf);repeat((first|apply TT mix|apply sE rfl|apply dG (by kernel_rfl)|fail);(conv=>whnf)))
       refine loop_iter (fun s33 : Int => mkF 181 [(1, (.mp 0 0 0)), (10, (.int .i64 s33))] [some ⟨3, 26, (.vals [(e_api_Norm p_t)]), false, false⟩]) h89 (weak_gen [0] rfl rfl (sK rfl (rowLe_vals (valsLe.cons (cellsLe_refl rfl) valsLe.nil)) storeLe.nil) (sQ rfl rfl)) ?_
       intro k35 s33 st35 Kn35 hn35 h35_ hs35
       ((conv=>whnf);repeat((first|apply TT mix|apply sE rfl|apply dG (by kernel_rfl)|fail);(conv=>whnf)))
       refine br_b rfl h35_ (fun c90 h35_ => ?_) (fun c90 h35_ => ?_)
       ·((conv=>whnf);repeat((first|apply TT mix|apply sE rfl|apply dG (by kernel_rfl)|fail);(conv=>whnf)))
        refine grd2 rfl rfl h35_ (fun h35_ => ?_)
        ((conv=>whnf);repeat((first|apply TT mix|apply sE rfl|apply dG (by kernel_rfl)|fail);(conv=>whnf)))
        refine bnd h35_ (fun y36 hy36 h35_ => ?_)
        refine Or.inl ⟨_, c_eponymref01_Right _ _ hy36, rfl, ?_⟩
        ((conv=>whnf);repeat((first|apply TT mix|apply sE rfl|apply dG (by kernel_rfl)|fail);(conv=>whnf)))
        refine br_b rfl h35_ (fun c91 h35_ => ?_) (fun c91 h35_ => ?_)
        ·have e := Option.some.inj h35_; subst e
         have e := done_out hs35; subst e
         have e := Option.some.inj hc88; subst e
         ((conv=>whnf);repeat((first|apply TT mix|apply sE rfl|apply dG (by kernel_rfl)|fail);(conv=>whnf)))
         exact And.intro (AV.Le.refl _) rfl
        ·((conv=>whnf);repeat((first|apply TT mix|apply sE rfl|apply dG (by kernel_rfl)|fail);(conv=>whnf)))
         refine bnd h35_ (fun x92 h92 h35_ => ?_)
         refine cut_at (fun s37 : Bool => mkF 181 [(1, (.mp 0 0 0)), (10, (.int .i64 s33)), (120, (.bool s37))] [some ⟨3, 26, (.vals [(e_api_Norm p_t)]), false, false⟩]) (fun s37 : Bool => m_eponymref04_Check_K38 s33 s37 = some st35) ?_ ?_
         ·intro Kn92 hn92
          ((conv=>whnf);repeat((first|apply TT mix|apply sE rfl|apply dG (by kernel_rfl)|fail);(conv=>whnf)))
          refine br_b rfl h92 (fun c93 h92 => ?_) (fun c93 h92 => ?_)
          ·((conv=>whnf);repeat((first|apply TT mix|apply sE rfl|apply dG (by kernel_rfl)|fail);(conv=>whnf)))
           refine grd2 rfl rfl h92 (fun h92 => ?_)
           ((conv=>whnf);repeat((first|apply TT mix|apply sE rfl|apply dG (by kernel_rfl)|fail);(conv=>whnf)))
           refine grd2 rfl rfl h92 (fun h92 => ?_)
           have e := Option.some.inj h92; subst e
           ((conv=>whnf);repeat((first|apply TT mix|apply sE rfl|apply dG (by kernel_rfl)|fail);(conv=>whnf)))
           exact hn92 _ (decide ((p_t.f_Excluded.getD (s33.toNat) 0) ≤ (p_t.f_Excluded.getD ((IntKind.wrap .i64 (s33 - (1 : Int))).toNat) 0))) h35_ (weak_gen [0] rfl rfl (sK rfl (rowLe_vals (valsLe.cons (cellsLe_refl rfl) valsLe.nil)) storeLe.nil) (sQ rfl rfl))
          ·have e := Option.some.inj h92; subst e
           ((conv=>whnf);repeat((first|apply TT mix|apply sE rfl|apply dG (by kernel_rfl)|fail);(conv=>whnf)))
           exact hn92 _ false h35_ (weak_gen [0] rfl rfl (sK rfl (rowLe_vals (valsLe.cons (cellsLe_refl rfl) valsLe.nil)) storeLe.nil) (sQ rfl rfl))
         ·clear h35_ h92
          intro s37 hc94
          ((conv=>whnf);repeat((first|apply TT mix|apply sE rfl|apply dG (by kernel_rfl)|fail);(conv=>whnf)))
          refine br_b rfl hc94 (fun c95 hc94 => ?_) (fun c95 hc94 => ?_)
          ·have e := Option.some.inj hc94; subst e
           have e := done_out hs35; subst e
           have e := Option.some.inj hc88; subst e
           ((conv=>whnf);repeat((first|apply TT mix|apply sE rfl|apply dG (by kernel_rfl)|fail);(conv=>whnf)))
           exact And.intro (AV.Le.refl _) rfl
          ·have e := Option.some.inj hc94; subst e
           ((conv=>whnf);repeat((first|apply TT mix|apply sE rfl|apply dG (by kernel_rfl)|fail);(conv=>whnf)))
           exact hn35 _ (IntKind.wrap .i64 (s33 + (1 : Int))) hs35 (weak_gen [0] rfl rfl (sK rfl (rowLe_vals (valsLe.cons (cellsLe_refl rfl) valsLe.nil)) storeLe.nil) (sQ rfl rfl))
       ·have e := Option.some.inj h35_; subst e
        have e := done_out hs35; subst e
        ((conv=>whnf);repeat((first|apply TT mix|apply sE rfl|apply dG (by kernel_rfl)|fail);(conv=>whnf)))
        exact hn89 _ () hc88 (weak_gen [0] rfl rfl (sK rfl (rowLe_vals (valsLe.cons (cellsLe_refl rfl) valsLe.nil)) storeLe.nil) (slotsLe.cons (cR rfl rfl) slotsLe.nil))
      ·clear hc88 h89
       intro s8 hc96
       ((conv=>whnf);repeat((first|apply TT mix|apply sE rfl|apply dG (by kernel_rfl)|fail);(conv=>whnf)))
       refine bnd hc96 (fun x97 h97 hc96 => ?_)
       refine cut_at (fun s10 : Unit => mkF 181 [] []) (fun s10 : Unit => some ((0 : Int), (0 : Int)) = some r) ?_ ?_
       ·intro Kn97 hn97
        ((conv=>whnf);repeat((first|apply TT mix|apply sE rfl|apply dG (by kernel_rfl)|fail);(conv=>whnf)))
        refine loop_iter (fun s13 : Int => mkF 181 [(1, (.mp 0 0 0)), (11, (.int .i64 s13))] [some ⟨3, 26, (.vals [(e_api_Norm p_t)]), false, false⟩]) h97 (weak_gen [0] rfl rfl (sK rfl (rowLe_vals (valsLe.cons (cellsLe_refl rfl) valsLe.nil)) storeLe.nil) (sQ rfl rfl)) ?_
        intro k15 s13 st15 Kn15 hn15 h15_ hs15
        ((conv=>whnf);repeat((first|apply TT mix|apply sE rfl|apply dG (by kernel_rfl)|fail);(conv=>whnf)))
        refine br_b rfl h15_ (fun c98 h15_ => ?_) (fun c98 h15_ => ?_)
        ·((conv=>whnf);repeat((first|apply TT mix|apply sE rfl|apply dG (by kernel_rfl)|fail);(conv=>whnf)))
         refine bnd h15_ (fun x99 h99 h15_ => ?_)
         refine cut_at (fun s16 : Unit => mkF 181 [(1, (.mp 0 0 0)), (11, (.int .i64 s13))] [some ⟨3, 26, (.vals [(e_api_Norm p_t)]), false, false⟩]) (fun s16 : Unit => some (.next (IntKind.wrap .i64 (s13 + (1 : Int)))) = some st15) ?_ ?_
         ·intro Kn99 hn99
          ((conv=>whnf);repeat((first|apply TT mix|apply sE rfl|apply dG (by kernel_rfl)|fail);(conv=>whnf)))
          refine loop_iter (fun s19 : Int => mkF 181 [(1, (.mp 0 0 0)), (11, (.int .i64 s13)), (12, (.int .i64 s19))] [some ⟨3, 26, (.vals [(e_api_Norm p_t)]), false, false⟩]) h99 (weak_gen [0] rfl rfl (sK rfl (rowLe_vals (valsLe.cons (cellsLe_refl rfl) valsLe.nil)) storeLe.nil) (sQ rfl rfl)) ?_
          intro k21 s19 st21 Kn21 hn21 h21_ hs21
          ((conv=>whnf);repeat((first|apply TT mix|apply sE rfl|apply dG (by kernel_rfl)|fail);(conv=>whnf)))
          refine br_b rfl h21_ (fun c100 h21_ => ?_) (fun c100 h21_ => ?_)
          ·((conv=>whnf);repeat((first|apply TT mix|apply sE rfl|apply dG (by kernel_rfl)|fail);(conv=>whnf)))
           refine bnd h21_ (fun x101 h101 h21_ => ?_)
           refine cut_at (fun s22 : Bool => mkF 181 [(1, (.mp 0 0 0)), (11, (.int .i64 s13)), (12, (.int .i64 s19)), (179, (.bool s22))] [some ⟨3, 26, (.vals [(e_api_Norm p_t)]), false, false⟩]) (fun s22 : Bool => m_eponymref04_Check_K23 s13 s19 s22 = some st21) ?_ ?_
           ·intro Kn101 hn101
            ((conv=>whnf);repeat((first|apply TT mix|apply sE rfl|apply dG (by kernel_rfl)|fail);(conv=>whnf)))
            refine bnd h101 (fun y24 hy24 h101 => ?_)
            refine Or.inl ⟨_, c_eponymref04_Composes _ _ _ hy24, rfl, ?_⟩
            ((conv=>whnf);repeat((first|apply TT mix|apply sE rfl|apply dG (by kernel_rfl)|fail);(conv=>whnf)))
            refine br_b rfl h101 (fun c102 h101 => ?_) (fun c102 h101 => ?_)
            ·((conv=>whnf);repeat((first|apply TT mix|apply sE rfl|apply dG (by kernel_rfl)|fail);(conv=>whnf)))
             refine bnd h101 (fun y25 hy25 h101 => ?_)
             refine Or.inl ⟨_, c_eponymref04_Composes _ _ _ hy25, rfl, ?_⟩
             ((conv=>whnf);repeat((first|apply TT mix|apply sE rfl|apply dG (by kernel_rfl)|fail);(conv=>whnf)))
             refine br_b rfl h101 (fun c103 h101 => ?_) (fun c103 h101 => ?_)
             ·((conv=>whnf);repeat((first|apply TT mix|apply sE rfl|apply dG (by kernel_rfl)|fail);(conv=>whnf)))
              refine grd2 rfl rfl h101 (fun h101 => ?_)
              ((conv=>whnf);repeat((first|apply TT mix|apply sE rfl|apply dG (by kernel_rfl)|fail);(conv=>whnf)))
              refine grd2 rfl rfl h101 (fun h101 => ?_)
              ((conv=>whnf);repeat((first|apply TT mix|apply sE rfl|apply dG (by kernel_rfl)|fail);(conv=>whnf)))
              refine grd2 rfl rfl h101 (fun h101 => ?_)
              ((conv=>whnf);repeat((first|apply TT mix|apply sE rfl|apply dG (by kernel_rfl)|fail);(conv=>whnf)))
              refine grd2 rfl rfl h101 (fun h101 => ?_)
              ((conv=>whnf);repeat((first|apply TT mix|apply sE rfl|apply dG (by kernel_rfl)|fail);(conv=>whnf)))
              refine br_b rfl h101 (fun c104 h101 => ?_) (fun c104 h101 => ?_)
              ·((conv=>whnf);repeat((first|apply TT mix|apply sE rfl|apply dG (by kernel_rfl)|fail);(conv=>whnf)))
               refine grd2 rfl rfl h101 (fun h101 => ?_)
               ((conv=>whnf);repeat((first|apply TT mix|apply sE rfl|apply dG (by kernel_rfl)|fail);(conv=>whnf)))
               refine grd2 rfl rfl h101 (fun h101 => ?_)
               ((conv=>whnf);repeat((first|apply TT mix|apply sE rfl|apply dG (by kernel_rfl)|fail);(conv=>whnf)))
               refine grd2 rfl rfl h101 (fun h101 => ?_)
               ((conv=>whnf);repeat((first|apply TT mix|apply sE rfl|apply dG (by kernel_rfl)|fail);(conv=>whnf)))
               refine grd2 rfl rfl h101 (fun h101 => ?_)
               have e := Option.some.inj h101; subst e
               ((conv=>whnf);repeat((first|apply TT mix|apply sE rfl|apply dG (by kernel_rfl)|fail);(conv=>whnf)))
               exact hn101 _ (((p_t.f_Rows.getD (s13.toNat) d_api_Row).f_To.getD 1 0) == ((p_t.f_Rows.getD (s19.toNat) d_api_Row).f_To.getD 1 0)) h21_ (weak_gen [0] rfl rfl (sK rfl (rowLe_vals (valsLe.cons (cellsLe_refl rfl) valsLe.nil)) storeLe.nil) (sQ rfl rfl))
              ·have e := Option.some.inj h101; subst e
               ((conv=>whnf);repeat((first|apply TT mix|apply sE rfl|apply dG (by kernel_rfl)|fail);(conv=>whnf)))
               exact hn101 _ false h21_ (weak_gen [0] rfl rfl (sK rfl (rowLe_vals (valsLe.cons (cellsLe_refl rfl) valsLe.nil)) storeLe.nil) (sQ rfl rfl))
             ·have e := Option.some.inj h101; subst e
              ((conv=>whnf);repeat((first|apply TT mix|apply sE rfl|apply dG (by kernel_rfl)|fail);(conv=>whnf)))
              exact hn101 _ false h21_ (weak_gen [0] rfl rfl (sK rfl (rowLe_vals (valsLe.cons (cellsLe_refl rfl) valsLe.nil)) storeLe.nil) (sQ rfl rfl))
            ·have e := Option.some.inj h101; subst e
             ((conv=>whnf);repeat((first|apply TT mix|apply sE rfl|apply dG (by kernel_rfl)|fail);(conv=>whnf)))
             exact hn101 _ false h21_ (weak_gen [0] rfl rfl (sK rfl (rowLe_vals (valsLe.cons (cellsLe_refl rfl) valsLe.nil)) storeLe.nil) (sQ rfl rfl))
           ·clear h21_ h101
            intro s22 hc105
            ((conv=>whnf);repeat((first|apply TT mix|apply sE rfl|apply dG (by kernel_rfl)|fail);(conv=>whnf)))
            refine br_b rfl hc105 (fun c106 hc105 => ?_) (fun c106 hc105 => ?_)
            ·have e := Option.some.inj hc105; subst e
             have e := done_out hs21; subst e
             have e := Option.some.inj h15_; subst e
             have e := done_out hs15; subst e
             have e := Option.some.inj hc96; subst e
             ((conv=>whnf);repeat((first|apply TT mix|apply sE rfl|apply dG (by kernel_rfl)|fail);(conv=>whnf)))
             exact And.intro (AV.Le.refl _) rfl
            ·have e := Option.some.inj hc105; subst e
             ((conv=>whnf);repeat((first|apply TT mix|apply sE rfl|apply dG (by kernel_rfl)|fail);(conv=>whnf)))
             exact hn21 _ (IntKind.wrap .i64 (s19 + (1 : Int))) hs21 (weak_gen [0] rfl rfl (sK rfl (rowLe_vals (valsLe.cons (cellsLe_refl rfl) valsLe.nil)) storeLe.nil) (sQ rfl rfl))
          ·have e := Option.some.inj h21_; subst e
           have e := done_out hs21; subst e
           ((conv=>whnf);repeat((first|apply TT mix|apply sE rfl|apply dG (by kernel_rfl)|fail);(conv=>whnf)))
           exact hn99 _ () h15_ (weak_gen [0] rfl rfl (sK rfl (rowLe_vals (valsLe.cons (cellsLe_refl rfl) valsLe.nil)) storeLe.nil) (sQ rfl rfl))
         ·clear h15_ h99
          intro s16 hc107
          have e := Option.some.inj hc107; subst e
          ((conv=>whnf);repeat((first|apply TT mix|apply sE rfl|apply dG (by kernel_rfl)|fail);(conv=>whnf)))
          exact hn15 _ (IntKind.wrap .i64 (s13 + (1 : Int))) hs15 (weak_gen [0] rfl rfl (sK rfl (rowLe_vals (valsLe.cons (cellsLe_refl rfl) valsLe.nil)) storeLe.nil) (sQ rfl rfl))
        ·have e := Option.some.inj h15_; subst e
         have e := done_out hs15; subst e
         ((conv=>whnf);repeat((first|apply TT mix|apply sE rfl|apply dG (by kernel_rfl)|fail);(conv=>whnf)))
         exact hn97 _ () hc96 (weak_gen [] rfl rfl storeLe.nil slotsLe.nil)
       ·clear hc96 h97
        intro s10 hc108
        have e := Option.some.inj hc108; subst e
        ((conv=>whnf);repeat((first|apply TT mix|apply sE rfl|apply dG (by kernel_rfl)|fail);(conv=>whnf)))
        exact And.intro (AV.Le.refl _) rfl
theorem c_eponymlaw04_Right (p_t : T_api_Norm) (r : Bool) (h : m_eponymlaw04_Right p_t = some r) : Contract pl 6 [(e_api_Norm p_t)] [] (AV.bool r) [] := by
 refine contract_of .z Tryz.func6 rfl (by kernel_rfl) ?_
 ((conv=>whnf);repeat((first|apply TT mix|apply sE rfl|apply dG (by kernel_rfl)|fail);(conv=>whnf)))
 refine bnd h (fun y1 hy1 h => ?_)
 refine Or.inl ⟨_, c_eponymref04_Check _ _ hy1, rfl, ?_⟩
 have e := Option.some.inj h; subst e
 ((conv=>whnf);repeat((first|apply TT mix|apply sE rfl|apply dG (by kernel_rfl)|fail);(conv=>whnf)))
 exact And.intro (AV.Le.refl _) rfl
theorem c_utf_fault (p_at : Int) (p_e : Er) (r : Er) (h : m_utf_fault p_at p_e = some r) : Contract pl 30 [(AV.int .i64 p_at), (AV.err p_e)] [] (AV.err r) [] := by
 refine contract_of .z Tryz.func30 rfl (by kernel_rfl) ?_
 have e := Option.some.inj h; subst e
 ((conv=>whnf);repeat((first|apply TT mix|apply sE rfl|apply dG (by kernel_rfl)|fail);(conv=>whnf)))
 exact And.intro (AV.Le.err_box (AV.Le.refl _)) rfl
theorem c_utf_first (p_b : Int) (r : Int × Int × Int × Int) (h : m_utf_first p_b = some r) : Contract pl 51 [(AV.int .u8 p_b)] [] (AV.tup [(AV.int .i64 r.1), (AV.int .i32 r.2.1), (AV.int .u8 r.2.2.1), (AV.int .u8 r.2.2.2)]) [] := by
 refine contract_of (.t false .z (.t false .z (.t true .z .z))) Tryz.func51 rfl (by kernel_rfl) ?_
 ((conv=>whnf);repeat((first|apply TT mix|apply sE rfl|apply dG (by kernel_rfl)|fail);(conv=>whnf)))
 refine bnd h (fun x4 h4 h => ?_)
 refine cut_at (fun s1 : Int => mkF 52 [(0, (.int .u8 p_b)), (2, (.int .i64 s1)), (4, (.int .u8 (128 : Int))), (5, (.int .u8 (191 : Int)))] []) (fun s1 : Int => m_utf_first_K2 p_b s1 = some r) ?_ ?_
 ·intro Kn4 hn4
  ((conv=>whnf);repeat((first|apply TT mix|apply sE rfl|apply dG (by kernel_rfl)|fail);(conv=>whnf)))
  refine br_b rfl h4 (fun c5 h4 => ?_) (fun c5 h4 => ?_)
  ·have e := Option.some.inj h4; subst e
   have e := Option.some.inj h; subst e
   ((conv=>whnf);repeat((first|apply TT mix|apply sE rfl|apply dG (by kernel_rfl)|fail);(conv=>whnf)))
   exact And.intro (AV.Le.refl _) rfl
  ·((conv=>whnf);repeat((first|apply TT mix|apply sE rfl|apply dG (by kernel_rfl)|fail);(conv=>whnf)))
   refine br_b rfl h4 (fun c6 h4 => ?_) (fun c6 h4 => ?_)
   ·have e := Option.some.inj h4; subst e
    ((conv=>whnf);repeat((first|apply TT mix|apply sE rfl|apply dG (by kernel_rfl)|fail);(conv=>whnf)))
    exact hn4 _ (IntKind.wrap .i64 ((IntKind.wrap .i64 ((IntKind.wrap .i64 ((0 : Int) + (1 : Int))) + (1 : Int))) + (1 : Int))) h (weak_gen [] rfl rfl storeLe.nil (sQ rfl rfl))
   ·((conv=>whnf);repeat((first|apply TT mix|apply sE rfl|apply dG (by kernel_rfl)|fail);(conv=>whnf)))
    refine br_b rfl h4 (fun c7 h4 => ?_) (fun c7 h4 => ?_)
    ·have e := Option.some.inj h4; subst e
     ((conv=>whnf);repeat((first|apply TT mix|apply sE rfl|apply dG (by kernel_rfl)|fail);(conv=>whnf)))
     exact hn4 _ (IntKind.wrap .i64 ((IntKind.wrap .i64 ((0 : Int) + (1 : Int))) + (1 : Int))) h (weak_gen [] rfl rfl storeLe.nil (sQ rfl rfl))
    ·((conv=>whnf);repeat((first|apply TT mix|apply sE rfl|apply dG (by kernel_rfl)|fail);(conv=>whnf)))
     refine br_b rfl h4 (fun c8 h4 => ?_) (fun c8 h4 => ?_)
     ·have e := Option.some.inj h4; subst e
      ((conv=>whnf);repeat((first|apply TT mix|apply sE rfl|apply dG (by kernel_rfl)|fail);(conv=>whnf)))
      exact hn4 _ (IntKind.wrap .i64 ((0 : Int) + (1 : Int))) h (weak_gen [] rfl rfl storeLe.nil (sQ rfl rfl))
     ·((conv=>whnf);repeat((first|apply TT mix|apply sE rfl|apply dG (by kernel_rfl)|fail);(conv=>whnf)))
      refine br_b rfl h4 (fun c9 h4 => ?_) (fun c9 h4 => ?_)
      ·have e := Option.some.inj h4; subst e
       have e := Option.some.inj h; subst e
       ((conv=>whnf);repeat((first|apply TT mix|apply sE rfl|apply dG (by kernel_rfl)|fail);(conv=>whnf)))
       exact And.intro (AV.Le.refl _) rfl
      ·have e := Option.some.inj h4; subst e
       have e := Option.some.inj h; subst e
       ((conv=>whnf);repeat((first|apply TT mix|apply sE rfl|apply dG (by kernel_rfl)|fail);(conv=>whnf)))
       exact And.intro (AV.Le.refl _) rfl
 ·clear h h4
  intro s1 hc10
  ((conv=>whnf);repeat((first|apply TT mix|apply sE rfl|apply dG (by kernel_rfl)|fail);(conv=>whnf)))
  refine br_b rfl hc10 (fun c11 hc10 => ?_) (fun c11 hc10 => ?_)
  ·((conv=>whnf);repeat((first|apply TT mix|apply sE rfl|apply dG (by kernel_rfl)|fail);(conv=>whnf)))
   refine grd1 rfl hc10 (fun hc10 => ?_)
   have e := Option.some.inj hc10; subst e
   ((conv=>whnf);repeat((first|apply TT mix|apply sE rfl|apply dG (by kernel_rfl)|fail);(conv=>whnf)))
   exact And.intro (AV.Le.refl _) rfl
  ·((conv=>whnf);repeat((first|apply TT mix|apply sE rfl|apply dG (by kernel_rfl)|fail);(conv=>whnf)))
   refine br_b rfl hc10 (fun c12 hc10 => ?_) (fun c12 hc10 => ?_)
   ·((conv=>whnf);repeat((first|apply TT mix|apply sE rfl|apply dG (by kernel_rfl)|fail);(conv=>whnf)))
    refine grd1 rfl hc10 (fun hc10 => ?_)
    have e := Option.some.inj hc10; subst e
    ((conv=>whnf);repeat((first|apply TT mix|apply sE rfl|apply dG (by kernel_rfl)|fail);(conv=>whnf)))
    exact And.intro (AV.Le.refl _) rfl
   ·((conv=>whnf);repeat((first|apply TT mix|apply sE rfl|apply dG (by kernel_rfl)|fail);(conv=>whnf)))
    refine br_b rfl hc10 (fun c13 hc10 => ?_) (fun c13 hc10 => ?_)
    ·((conv=>whnf);repeat((first|apply TT mix|apply sE rfl|apply dG (by kernel_rfl)|fail);(conv=>whnf)))
     refine grd1 rfl hc10 (fun hc10 => ?_)
     have e := Option.some.inj hc10; subst e
     ((conv=>whnf);repeat((first|apply TT mix|apply sE rfl|apply dG (by kernel_rfl)|fail);(conv=>whnf)))
     exact And.intro (AV.Le.refl _) rfl
    ·((conv=>whnf);repeat((first|apply TT mix|apply sE rfl|apply dG (by kernel_rfl)|fail);(conv=>whnf)))
     refine br_b rfl hc10 (fun c14 hc10 => ?_) (fun c14 hc10 => ?_)
     ·((conv=>whnf);repeat((first|apply TT mix|apply sE rfl|apply dG (by kernel_rfl)|fail);(conv=>whnf)))
      refine grd1 rfl hc10 (fun hc10 => ?_)
      have e := Option.some.inj hc10; subst e
      ((conv=>whnf);repeat((first|apply TT mix|apply sE rfl|apply dG (by kernel_rfl)|fail);(conv=>whnf)))
      exact And.intro (AV.Le.refl _) rfl
     ·((conv=>whnf);repeat((first|apply TT mix|apply sE rfl|apply dG (by kernel_rfl)|fail);(conv=>whnf)))
      refine grd1 rfl hc10 (fun hc10 => ?_)
      have e := Option.some.inj hc10; subst e
      ((conv=>whnf);repeat((first|apply TT mix|apply sE rfl|apply dG (by kernel_rfl)|fail);(conv=>whnf)))
      exact And.intro (AV.Le.refl _) rfl
theorem c_utf_Next (p_s : ByteArray) (p_at : Int) (r : Int × Int × Er) (h : m_utf_Next p_s p_at = some r) : Contract pl 28 [(AV.str p_s), (AV.int .i64 p_at)] [] (AV.tup [(AV.int .i32 r.1), (AV.int .i64 r.2.1), (AV.err r.2.2)]) [] := by
 refine contract_of (.t false .z (.t false (.t true .z .z) (.t false .z (.t false .z (.t true (.t false .z (.t false (.t false (.t false .z (.t false (.t false (.t false .z (.t false .z (.t false (.t true .z .z) .z))) .z) .z)) .z) .z)) .z))))) Tryz.func28 rfl (by kernel_rfl) ?_
 ((conv=>whnf);repeat((first|apply TT mix|apply sE rfl|apply dG (by kernel_rfl)|fail);(conv=>whnf)))
 refine bnd h (fun x19 h19 h => ?_)
 refine cut_at (fun s1 : Bool => mkF 76 [(0, (.str p_s)), (1, (.int .i64 p_at)), (19, (.bool s1))] []) (fun s1 : Bool => m_utf_Next_K2 p_s p_at s1 = some r) ?_ ?_
 ·intro Kn19 hn19
  ((conv=>whnf);repeat((first|apply TT mix|apply sE rfl|apply dG (by kernel_rfl)|fail);(conv=>whnf)))
  refine br_b rfl h19 (fun c20 h19 => ?_) (fun c20 h19 => ?_)
  ·have e := Option.some.inj h19; subst e
   ((conv=>whnf);repeat((first|apply TT mix|apply sE rfl|apply dG (by kernel_rfl)|fail);(conv=>whnf)))
   exact hn19 _ true h (weak_gen [] rfl rfl storeLe.nil (sQ rfl rfl))
  ·have e := Option.some.inj h19; subst e
   ((conv=>whnf);repeat((first|apply TT mix|apply sE rfl|apply dG (by kernel_rfl)|fail);(conv=>whnf)))
   exact hn19 _ (decide (p_at ≥ ((p_s.size : Nat) : Int))) h (weak_gen [] rfl rfl storeLe.nil (sQ rfl rfl))
 ·clear h h19
  intro s1 hc21
  ((conv=>whnf);repeat((first|apply TT mix|apply sE rfl|apply dG (by kernel_rfl)|fail);(conv=>whnf)))
  refine br_b rfl hc21 (fun c22 hc21 => ?_) (fun c22 hc21 => ?_)
  ·((conv=>whnf);repeat((first|apply TT mix|apply sE rfl|apply dG (by kernel_rfl)|fail);(conv=>whnf)))
   refine bnd hc21 (fun y3 hy3 hc21 => ?_)
   refine Or.inl ⟨_, c_utf_fault _ _ _ hy3, rfl, ?_⟩
   have e := Option.some.inj hc21; subst e
   ((conv=>whnf);repeat((first|apply TT mix|apply sE rfl|apply dG (by kernel_rfl)|fail);(conv=>whnf)))
   exact And.intro (AV.Le.refl _) rfl
  ·((conv=>whnf);repeat((first|apply TT mix|apply sE rfl|apply dG (by kernel_rfl)|fail);(conv=>whnf)))
   refine grd2 rfl rfl hc21 (fun hc21 => ?_)
   ((conv=>whnf);repeat((first|apply TT mix|apply sE rfl|apply dG (by kernel_rfl)|fail);(conv=>whnf)))
   refine bnd hc21 (fun y4 hy4 hc21 => ?_)
   refine Or.inl ⟨_, c_utf_first _ _ hy4, rfl, ?_⟩
   ((conv=>whnf);repeat((first|apply TT mix|apply sE rfl|apply dG (by kernel_rfl)|fail);(conv=>whnf)))
   refine br_b rfl hc21 (fun c23 hc21 => ?_) (fun c23 hc21 => ?_)
   ·((conv=>whnf);repeat((first|apply TT mix|apply sE rfl|apply dG (by kernel_rfl)|fail);(conv=>whnf)))
    refine bnd hc21 (fun y5 hy5 hc21 => ?_)
    refine Or.inl ⟨_, c_utf_fault _ _ _ hy5, rfl, ?_⟩
    have e := Option.some.inj hc21; subst e
    ((conv=>whnf);repeat((first|apply TT mix|apply sE rfl|apply dG (by kernel_rfl)|fail);(conv=>whnf)))
    exact And.intro (AV.Le.refl _) rfl
   ·((conv=>whnf);repeat((first|apply TT mix|apply sE rfl|apply dG (by kernel_rfl)|fail);(conv=>whnf)))
    refine bnd hc21 (fun x24 h24 hc21 => ?_)
    refine cut_at (fun s6 : Int => mkF 76 [(4, (.int .i32 s6)), (7, (.int .i64 y4.1))] []) (fun s6 : Int => some (s6, (IntKind.wrap .i64 (y4.1 + (1 : Int))), Er.nil) = some r) ?_ ?_
    ·intro Kn24 hn24
     ((conv=>whnf);repeat((first|apply TT mix|apply sE rfl|apply dG (by kernel_rfl)|fail);(conv=>whnf)))
     refine loop_iter (fun s9 : Int × Int × Int × Int => mkF 76 [(0, (.str p_s)), (1, (.int .i64 p_at)), (4, (.int .i32 s9.1)), (7, (.int .i64 y4.1)), (8, (.int .u8 s9.2.1)), (9, (.int .u8 s9.2.2.1)), (10, (.int .i64 s9.2.2.2))] []) h24 (weak_gen [] rfl rfl storeLe.nil (sQ rfl rfl)) ?_
     intro k11 s9 st11 Kn11 hn11 h11_ hs11
     ((conv=>whnf);repeat((first|apply TT mix|apply sE rfl|apply dG (by kernel_rfl)|fail);(conv=>whnf)))
     refine br_b rfl h11_ (fun c25 h11_ => ?_) (fun c25 h11_ => ?_)
     ·((conv=>whnf);repeat((first|apply TT mix|apply sE rfl|apply dG (by kernel_rfl)|fail);(conv=>whnf)))
      refine br_b rfl h11_ (fun c26 h11_ => ?_) (fun c26 h11_ => ?_)
      ·((conv=>whnf);repeat((first|apply TT mix|apply sE rfl|apply dG (by kernel_rfl)|fail);(conv=>whnf)))
       refine bnd h11_ (fun y12 hy12 h11_ => ?_)
       refine Or.inl ⟨_, c_utf_fault _ _ _ hy12, rfl, ?_⟩
       have e := Option.some.inj h11_; subst e
       have e := done_out hs11; subst e
       have e := Option.some.inj hc21; subst e
       ((conv=>whnf);repeat((first|apply TT mix|apply sE rfl|apply dG (by kernel_rfl)|fail);(conv=>whnf)))
       exact And.intro (AV.Le.refl _) rfl
      ·((conv=>whnf);repeat((first|apply TT mix|apply sE rfl|apply dG (by kernel_rfl)|fail);(conv=>whnf)))
       refine grd2 rfl rfl h11_ (fun h11_ => ?_)
       ((conv=>whnf);repeat((first|apply TT mix|apply sE rfl|apply dG (by kernel_rfl)|fail);(conv=>whnf)))
       refine bnd h11_ (fun x27 h27 h11_ => ?_)
       refine cut_at (fun s13 : Bool => mkF 76 [(0, (.str p_s)), (1, (.int .i64 p_at)), (4, (.int .i32 s9.1)), (7, (.int .i64 y4.1)), (10, (.int .i64 s9.2.2.2)), (11, (.int .u8 (bt p_s (IntKind.wrap .i64 (p_at + s9.2.2.2))))), (63, (.bool s13))] []) (fun s13 : Bool => m_utf_Next_K14 p_s p_at s9 s13 = some st11) ?_ ?_
       ·intro Kn27 hn27
        ((conv=>whnf);repeat((first|apply TT mix|apply sE rfl|apply dG (by kernel_rfl)|fail);(conv=>whnf)))
        refine br_b rfl h27 (fun c28 h27 => ?_) (fun c28 h27 => ?_)
        ·have e := Option.some.inj h27; subst e
         ((conv=>whnf);repeat((first|apply TT mix|apply sE rfl|apply dG (by kernel_rfl)|fail);(conv=>whnf)))
         exact hn27 _ true h11_ (weak_gen [] rfl rfl storeLe.nil (sQ rfl rfl))
        ·have e := Option.some.inj h27; subst e
         ((conv=>whnf);repeat((first|apply TT mix|apply sE rfl|apply dG (by kernel_rfl)|fail);(conv=>whnf)))
         exact hn27 _ (decide ((bt p_s (IntKind.wrap .i64 (p_at + s9.2.2.2))) > s9.2.2.1)) h11_ (weak_gen [] rfl rfl storeLe.nil (sQ rfl rfl))
       ·clear h11_ h27
        intro s13 hc29
        ((conv=>whnf);repeat((first|apply TT mix|apply sE rfl|apply dG (by kernel_rfl)|fail);(conv=>whnf)))
        refine br_b rfl hc29 (fun c30 hc29 => ?_) (fun c30 hc29 => ?_)
        ·((conv=>whnf);repeat((first|apply TT mix|apply sE rfl|apply dG (by kernel_rfl)|fail);(conv=>whnf)))
         refine bnd hc29 (fun y15 hy15 hc29 => ?_)
         refine Or.inl ⟨_, c_utf_fault _ _ _ hy15, rfl, ?_⟩
         have e := Option.some.inj hc29; subst e
         have e := done_out hs11; subst e
         have e := Option.some.inj hc21; subst e
         ((conv=>whnf);repeat((first|apply TT mix|apply sE rfl|apply dG (by kernel_rfl)|fail);(conv=>whnf)))
         exact And.intro (AV.Le.refl _) rfl
        ·((conv=>whnf);repeat((first|apply TT mix|apply sE rfl|apply dG (by kernel_rfl)|fail);(conv=>whnf)))
         refine And.intro (by decide) ?_
         have e := Option.some.inj hc29; subst e
         ((conv=>whnf);repeat((first|apply TT mix|apply sE rfl|apply dG (by kernel_rfl)|fail);(conv=>whnf)))
         exact hn11 _ ((ior .i32 (IntKind.wrap .i32 (s9.1 * 64)) (IntKind.wrap .i32 (iand .u8 (bt p_s (IntKind.wrap .i64 (p_at + s9.2.2.2))) (63 : Int)))), (128 : Int), (191 : Int), (IntKind.wrap .i64 (s9.2.2.2 + (1 : Int)))) hs11 (weak_gen [] rfl rfl storeLe.nil (sQ rfl rfl))
     ·have e := Option.some.inj h11_; subst e
      have e := done_out hs11; subst e
      ((conv=>whnf);repeat((first|apply TT mix|apply sE rfl|apply dG (by kernel_rfl)|fail);(conv=>whnf)))
      exact hn24 _ s9.1 hc21 (weak_gen [] rfl rfl storeLe.nil (sQ rfl rfl))
    ·clear hc21 h24
     intro s6 hc31
     have e := Option.some.inj hc31; subst e
     ((conv=>whnf);repeat((first|apply TT mix|apply sE rfl|apply dG (by kernel_rfl)|fail);(conv=>whnf)))
     exact And.intro (AV.Le.tup (argsLe.cons (AV.Le.refl _) (argsLe.cons (AV.Le.refl _) (argsLe.cons (AV.Le.err_nil) argsLe.nil)))) rfl
theorem c_utf_Decode (p_s : ByteArray) (r : (List Int) × Er) (h : m_utf_Decode p_s = some r) : Contract pl 13 [(AV.str p_s)] [] (AV.tup [(e_L_i32 r.1), (AV.err r.2)]) [] := by
 refine contract_of (.t false .z (.t false .z (.t true .z .z))) Tryz.func13 rfl (by kernel_rfl) ?_
 ((conv=>whnf);repeat((first|apply TT mix|apply sE rfl|apply dG (by kernel_rfl)|fail);(conv=>whnf)))
 refine bnd h (fun x11 h11 h => ?_)
 refine cut_at (fun s1 : (List Int) => mkF 31 [(4, (.ms 0 s1.length))] [some ⟨1, 21, (.ints .i32 s1), false, true⟩]) (fun s1 : (List Int) => some (s1, Er.nil) = some r) ?_ ?_
 ·intro Kn11 hn11
  ((conv=>whnf);repeat((first|apply TT mix|apply sE rfl|apply dG (by kernel_rfl)|fail);(conv=>whnf)))
  refine loop_iter (fun s4 : (List Int) × Int => mkF 31 [(0, (.str p_s)), (4, (.ms 0 s4.1.length)), (5, (.int .i64 s4.2))] [some ⟨1, 21, (.ints .i32 s4.1), false, true⟩]) h11 (weak_trans (weak_nil 4 1 21 (.ints .i32 []) _ rfl rfl trivial (Nat.zero_le _)) (weak_gen [0] rfl rfl (sK rfl (rowLe_ints (by first | rfl | simp)) storeLe.nil) (sQ rfl rfl))) ?_
  intro k6 s4 st6 Kn6 hn6 h6_ hs6
  ((conv=>whnf);repeat((first|apply TT mix|apply sE rfl|apply dG (by kernel_rfl)|fail);(conv=>whnf)))
  refine br_b rfl h6_ (fun c12 h6_ => ?_) (fun c12 h6_ => ?_)
  ·((conv=>whnf);repeat((first|apply TT mix|apply sE rfl|apply dG (by kernel_rfl)|fail);(conv=>whnf)))
   refine bnd h6_ (fun y7 hy7 h6_ => ?_)
   refine Or.inl ⟨_, c_utf_Next _ _ _ hy7, rfl, ?_⟩
   ((conv=>whnf);repeat((first|apply TT mix|apply sE rfl|apply dG (by kernel_rfl)|fail);(conv=>whnf)))
   refine br_b rfl h6_ (fun c13 h6_ => ?_) (fun c13 h6_ => ?_)
   ·have e := Option.some.inj h6_; subst e
    have e := done_out hs6; subst e
    have e := Option.some.inj h; subst e
    ((conv=>whnf);repeat((first|apply TT mix|apply sE rfl|apply dG (by kernel_rfl)|fail);(conv=>whnf)))
    exact And.intro (AV.Le.tup (argsLe.cons (AV.Le.list rfl (fun j hj => absurd hj (Nat.not_lt_zero _))) (argsLe.cons (AV.Le.refl _) argsLe.nil))) rfl
   ·((conv=>whnf);repeat((first|apply TT mix|apply sE rfl|apply dG (by kernel_rfl)|fail);(conv=>whnf)))
    obtain ⟨p14, h6_⟩ := grdO h6_
    refine ⟨[], 1, (.ints .i32 [y7.1]), ⟨by simp [Row.len] <;> omega, rfl, _, rfl, by simp [Row.len] <;> omega, fun j hj => .inl rfl⟩, trivial, fun j hj => rfl, ?_⟩
    conv => whnf
    refine ⟨by simp [Row.len]; try omega, p14, by omega, ?_⟩
    have e := Option.some.inj h6_; subst e
    ((conv=>whnf);repeat((first|apply TT mix|apply sE rfl|apply dG (by kernel_rfl)|fail);(conv=>whnf)))
    exact hn6 _ ((s4.1 ++ [y7.1]), (IntKind.wrap .i64 (s4.2 + y7.2.1))) hs6 (weak_gen [2] rfl rfl (sK rfl (rowLe_ints (by first | rfl | simp)) storeLe.nil) (slotsLe.cons (cR rfl rfl) (slotsLe.cons (And.intro rfl (AV.Le.of_eq (congrArg (AV.ms _) (by first | rfl | omega | (simp; omega) | simp)))) (slotsLe.cons (cR rfl rfl) slotsLe.nil))))
  ·have e := Option.some.inj h6_; subst e
   have e := done_out hs6; subst e
   ((conv=>whnf);repeat((first|apply TT mix|apply sE rfl|apply dG (by kernel_rfl)|fail);(conv=>whnf)))
   exact hn11 _ s4.1 h (weak_gen [0] rfl rfl (sK rfl (rowLe_ints (by first | rfl | simp)) storeLe.nil) (slotsLe.cons (And.intro rfl (AV.Le.of_eq (congrArg (AV.ms _) (by first | rfl | omega | (simp; omega) | simp)))) slotsLe.nil))
 ·clear h h11
  intro s1 hc15
  have e := Option.some.inj hc15; subst e
  ((conv=>whnf);repeat((first|apply TT mix|apply sE rfl|apply dG (by kernel_rfl)|fail);(conv=>whnf)))
  exact And.intro (AV.Le.tup (argsLe.cons (AV.Le.refl _) (argsLe.cons (AV.Le.err_nil) argsLe.nil))) rfl
theorem c_utf_Right (p_r : Int) (r : Bool) (h : m_utf_Right p_r = some r) : Contract pl 29 [(AV.int .i32 p_r)] [] (AV.bool r) [] := by
 refine contract_of .z Tryz.func29 rfl (by kernel_rfl) ?_
 ((conv=>whnf);repeat((first|apply TT mix|apply sE rfl|apply dG (by kernel_rfl)|fail);(conv=>whnf)))
 refine br_b rfl h (fun c1 h => ?_) (fun c1 h => ?_)
 ·((conv=>whnf);repeat((first|apply TT mix|apply sE rfl|apply dG (by kernel_rfl)|fail);(conv=>whnf)))
  refine br_b rfl h (fun c2 h => ?_) (fun c2 h => ?_)
  ·((conv=>whnf);repeat((first|apply TT mix|apply sE rfl|apply dG (by kernel_rfl)|fail);(conv=>whnf)))
   refine br_b rfl h (fun c3 h => ?_) (fun c3 h => ?_)
   ·have e := Option.some.inj h; subst e
    ((conv=>whnf);repeat((first|apply TT mix|apply sE rfl|apply dG (by kernel_rfl)|fail);(conv=>whnf)))
    exact And.intro (AV.Le.refl _) rfl
   ·have e := Option.some.inj h; subst e
    ((conv=>whnf);repeat((first|apply TT mix|apply sE rfl|apply dG (by kernel_rfl)|fail);(conv=>whnf)))
    exact And.intro (AV.Le.refl _) rfl
  ·have e := Option.some.inj h; subst e
   ((conv=>whnf);repeat((first|apply TT mix|apply sE rfl|apply dG (by kernel_rfl)|fail);(conv=>whnf)))
   exact And.intro (AV.Le.refl _) rfl
 ·have e := Option.some.inj h; subst e
  ((conv=>whnf);repeat((first|apply TT mix|apply sE rfl|apply dG (by kernel_rfl)|fail);(conv=>whnf)))
  exact And.intro (AV.Le.refl _) rfl
theorem c_utf_Width (p_r : Int) (r : Int) (h : m_utf_Width p_r = some r) : Contract pl 52 [(AV.int .i32 p_r)] [] (AV.int .i64 r) [] := by
 refine contract_of .z Tryz.func52 rfl (by kernel_rfl) ?_
 ((conv=>whnf);repeat((first|apply TT mix|apply sE rfl|apply dG (by kernel_rfl)|fail);(conv=>whnf)))
 refine bnd h (fun y1 hy1 h => ?_)
 refine Or.inl ⟨_, c_utf_Right _ _ hy1, rfl, ?_⟩
 ((conv=>whnf);repeat((first|apply TT mix|apply sE rfl|apply dG (by kernel_rfl)|fail);(conv=>whnf)))
 refine br_b rfl h (fun c2 h => ?_) (fun c2 h => ?_)
 ·have e := Option.some.inj h; subst e
  ((conv=>whnf);repeat((first|apply TT mix|apply sE rfl|apply dG (by kernel_rfl)|fail);(conv=>whnf)))
  exact And.intro (AV.Le.refl _) rfl
 ·((conv=>whnf);repeat((first|apply TT mix|apply sE rfl|apply dG (by kernel_rfl)|fail);(conv=>whnf)))
  refine br_b rfl h (fun c3 h => ?_) (fun c3 h => ?_)
  ·have e := Option.some.inj h; subst e
   ((conv=>whnf);repeat((first|apply TT mix|apply sE rfl|apply dG (by kernel_rfl)|fail);(conv=>whnf)))
   exact And.intro (AV.Le.refl _) rfl
  ·((conv=>whnf);repeat((first|apply TT mix|apply sE rfl|apply dG (by kernel_rfl)|fail);(conv=>whnf)))
   refine br_b rfl h (fun c4 h => ?_) (fun c4 h => ?_)
   ·have e := Option.some.inj h; subst e
    ((conv=>whnf);repeat((first|apply TT mix|apply sE rfl|apply dG (by kernel_rfl)|fail);(conv=>whnf)))
    exact And.intro (AV.Le.refl _) rfl
   ·((conv=>whnf);repeat((first|apply TT mix|apply sE rfl|apply dG (by kernel_rfl)|fail);(conv=>whnf)))
    refine br_b rfl h (fun c5 h => ?_) (fun c5 h => ?_)
    ·have e := Option.some.inj h; subst e
     ((conv=>whnf);repeat((first|apply TT mix|apply sE rfl|apply dG (by kernel_rfl)|fail);(conv=>whnf)))
     exact And.intro (AV.Le.refl _) rfl
    ·have e := Option.some.inj h; subst e
     ((conv=>whnf);repeat((first|apply TT mix|apply sE rfl|apply dG (by kernel_rfl)|fail);(conv=>whnf)))
     exact And.intro (AV.Le.refl _) rfl
theorem c_strings_Builder_copyCheck_own (p_b_0 : Bool) (p_b_1 : (List Int)) (r : Bool) (h : m_strings_Builder_copyCheck_own p_b_0 p_b_1 = some r) : ContractM 2 pl 70 [(.mp 0 0 0)] [some ⟨2, 67, (.vals [(.agg [(.mpn 0 0 0 p_b_0), (.ms 1 p_b_1.length)])]), false, false⟩, some ⟨1, 5, (.ints .u8 p_b_1), false, true⟩] (.tup []) [some ⟨2, 67, (.vals [(.agg [(.mpn 0 0 0 r), (.ms 1 p_b_1.length)])]), false, false⟩, some ⟨1, 5, (.ints .u8 p_b_1), false, true⟩] := by
 refine contract_own 2 .z rfl Tryz.func70 rfl (by kernel_rfl) ?_
 ((conv=>whnf);repeat((first|apply TT mix|apply sE rfl|apply dG (by kernel_rfl)|fail);(conv=>whnf)))
 refine br_b rfl h (fun c1 h => ?_) (fun c1 h => ?_)
 ·((conv=>whnf);repeat((first|apply TT mix|apply sE rfl|apply dG (by kernel_rfl)|fail);(conv=>whnf)))
  refine And.intro same_NoEscape ?_
  have e := Option.some.inj h; subst e
  ((conv=>whnf);repeat((first|apply TT mix|apply sE rfl|apply dG (by kernel_rfl)|fail);(conv=>whnf)))
  exact Or.inr (Or.inr (weak_gen [0, 1] rfl rfl (sK rfl (rowLe_vals (valsLe.cons (cellsLe.cons (And.intro rfl (AV.Le.mpn_true)) (cellsLe.cons (And.intro rfl (AV.Le.of_eq (congrArg (AV.ms _) (by first | rfl | omega | (simp; omega) | simp)))) cellsLe.nil)) valsLe.nil)) (sK rfl (by first | exact rowLe_same fun _ _ _ => rfl | (simp; exact rowLe_same fun _ _ _ => rfl)) storeLe.nil)) (slotsLe.cons (cR rfl rfl) slotsLe.nil)))
 ·((conv=>whnf);repeat((first|apply TT mix|apply sE rfl|apply dG (by kernel_rfl)|fail);(conv=>whnf)))
  refine br_b rfl h (fun c2 h => ?_) (fun c2 h => ?_)
  ·cases h
  ·have e := Option.some.inj h; subst e
   ((conv=>whnf);repeat((first|apply TT mix|apply sE rfl|apply dG (by kernel_rfl)|fail);(conv=>whnf)))
   exact Or.inr (Or.inr (weak_gen [0, 1] rfl rfl (sK rfl (rowLe_vals (valsLe.cons (cellsLe.cons (cR rfl rfl) (cellsLe.cons (And.intro rfl (AV.Le.of_eq (congrArg (AV.ms _) (by first | rfl | omega | (simp; omega) | simp)))) cellsLe.nil)) valsLe.nil)) (sK rfl (by first | exact rowLe_same fun _ _ _ => rfl | (simp; exact rowLe_same fun _ _ _ => rfl)) storeLe.nil)) (slotsLe.cons (cR rfl rfl) slotsLe.nil)))
theorem c_strings_Builder_WriteByte_own (p_b_0 : Bool) (p_b_1 : (List Int)) (p_c : Int) (r : Bool × (List Int) × Er) (h : m_strings_Builder_WriteByte_own p_b_0 p_b_1 p_c = some r) : ContractM 1 pl 53 [(.mp 0 0 0), (.int .u8 p_c)] [some ⟨2, 67, (.vals [(.agg [(.mpn 0 0 0 p_b_0), (.ms 1 p_b_1.length)])]), false, false⟩, some ⟨1, 5, (.ints .u8 p_b_1), false, true⟩] (.err r.2.2) [some ⟨2, 67, (.vals [(.agg [(.mpn 0 0 0 r.1), (.ms 1 r.2.1.length)])]), false, false⟩, some ⟨1, 5, (.ints .u8 r.2.1), false, true⟩] := by
 refine contract_own 1 .z rfl Tryz.func53 rfl (by kernel_rfl) ?_
 ((conv=>whnf);repeat((first|apply TT mix|apply sE rfl|apply dG (by kernel_rfl)|fail);(conv=>whnf)))
 refine bnd h (fun y1 hy1 h => ?_)
 refine own_intro (own_call [0, 1] (c_strings_Builder_copyCheck_own _ _ _ hy1) rfl (sK rfl (rowLe_vals (valsLe.cons (cellsLe.cons (cR rfl rfl) (cellsLe.cons (And.intro rfl (AV.Le.of_eq (congrArg (AV.ms _) (by first | rfl | omega | (simp; omega) | simp)))) cellsLe.nil)) valsLe.nil)) (sK rfl (rowLe_ints (by first | rfl | simp)) storeLe.nil)) (cellsLe.cons (And.intro rfl (AV.Le.refl _)) cellsLe.nil) rfl) ?_
 ((conv=>whnf);repeat((first|apply TT mix|apply sE rfl|apply dG (by kernel_rfl)|fail);(conv=>whnf)))
 obtain ⟨p2, h⟩ := grdO h
 refine ⟨[], 1, (.ints .u8 [p_c]), ⟨by simp [Row.len] <;> omega, rfl, _, rfl, by simp [Row.len] <;> omega, fun j hj => .inl rfl⟩, trivial, fun j hj => rfl, ?_⟩
 conv => whnf
 refine ⟨by simp [Row.len]; try omega, p2, by omega, ?_⟩
 have e := Option.some.inj h; subst e
 ((conv=>whnf);repeat((first|apply TT mix|apply sE rfl|apply dG (by kernel_rfl)|fail);(conv=>whnf)))
 exact Or.inr (Or.inr (weak_gen [0, 3] rfl rfl (sK rfl (rowLe_vals (valsLe.cons (cellsLe.cons (cR rfl rfl) (cellsLe.cons (And.intro rfl (AV.Le.of_eq (congrArg (AV.ms _) (by first | rfl | omega | (simp; omega) | simp)))) cellsLe.nil)) valsLe.nil)) (sK rfl (rowLe_ints (by first | rfl | simp)) storeLe.nil)) (slotsLe.cons (And.intro rfl (AV.Le.err_nil)) slotsLe.nil)))
theorem c_utf_put_own (p_b_0 : Bool) (p_b_1 : (List Int)) (p_r : Int) (r : Bool × (List Int)) (h : m_utf_put_own p_b_0 p_b_1 p_r = some r) : ContractM 1 pl 31 [(.mp 0 0 0), (.int .i32 p_r)] [some ⟨2, 67, (.vals [(.agg [(.mpn 0 0 0 p_b_0), (.ms 1 p_b_1.length)])]), false, false⟩, some ⟨1, 5, (.ints .u8 p_b_1), false, true⟩] (.tup []) [some ⟨2, 67, (.vals [(.agg [(.mpn 0 0 0 r.1), (.ms 1 r.2.length)])]), false, false⟩, some ⟨1, 5, (.ints .u8 r.2), false, true⟩] := by
 refine contract_own 1 .z rfl Tryz.func31 rfl (by kernel_rfl) ?_
 ((conv=>whnf);repeat((first|apply TT mix|apply sE rfl|apply dG (by kernel_rfl)|fail);(conv=>whnf)))
 refine bnd h (fun y4 hy4 h => ?_)
 refine Or.inl ⟨_, c_utf_Width _ _ hy4, rfl, ?_⟩
 ((conv=>whnf);repeat((first|apply TT mix|apply sE rfl|apply dG (by kernel_rfl)|fail);(conv=>whnf)))
 refine br_b rfl h (fun c13 h => ?_) (fun c13 h => ?_)
 ·((conv=>whnf);repeat((first|apply TT mix|apply sE rfl|apply dG (by kernel_rfl)|fail);(conv=>whnf)))
  refine bnd h (fun y5 hy5 h => ?_)
  refine own_intro (own_call [0, 1] (c_strings_Builder_WriteByte_own _ _ _ _ hy5) rfl (sK rfl (rowLe_vals (valsLe.cons (cellsLe.cons (cR rfl rfl) (cellsLe.cons (And.intro rfl (AV.Le.of_eq (congrArg (AV.ms _) (by first | rfl | omega | (simp; omega) | simp)))) cellsLe.nil)) valsLe.nil)) (sK rfl (rowLe_ints (by first | rfl | simp)) storeLe.nil)) (cellsLe.cons (And.intro rfl (AV.Le.refl _)) (cellsLe.cons (And.intro rfl (AV.Le.refl _)) cellsLe.nil)) rfl) ?_
  have e := Option.some.inj h; subst e
  ((conv=>whnf);repeat((first|apply TT mix|apply sE rfl|apply dG (by kernel_rfl)|fail);(conv=>whnf)))
  exact Or.inr (Or.inr (weak_gen [0, 2] rfl rfl (sK rfl (rowLe_vals (valsLe.cons (cellsLe.cons (cR rfl rfl) (cellsLe.cons (And.intro rfl (AV.Le.of_eq (congrArg (AV.ms _) (by first | rfl | omega | (simp; omega) | simp)))) cellsLe.nil)) valsLe.nil)) (sK rfl (rowLe_ints (by first | rfl | simp)) storeLe.nil)) (slotsLe.cons (cR rfl rfl) slotsLe.nil)))
 ·((conv=>whnf);repeat((first|apply TT mix|apply sE rfl|apply dG (by kernel_rfl)|fail);(conv=>whnf)))
  refine grd1 rfl h (fun h => ?_)
  ((conv=>whnf);repeat((first|apply TT mix|apply sE rfl|apply dG (by kernel_rfl)|fail);(conv=>whnf)))
  refine grd1 rfl h (fun h => ?_)
  ((conv=>whnf);repeat((first|apply TT mix|apply sE rfl|apply dG (by kernel_rfl)|fail);(conv=>whnf)))
  refine bnd h (fun y6 hy6 h => ?_)
  refine own_intro (own_call [0, 1] (c_strings_Builder_WriteByte_own _ _ _ _ hy6) rfl (sK rfl (rowLe_vals (valsLe.cons (cellsLe.cons (cR rfl rfl) (cellsLe.cons (And.intro rfl (AV.Le.of_eq (congrArg (AV.ms _) (by first | rfl | omega | (simp; omega) | simp)))) cellsLe.nil)) valsLe.nil)) (sK rfl (rowLe_ints (by first | rfl | simp)) storeLe.nil)) (cellsLe.cons (And.intro rfl (AV.Le.refl _)) (cellsLe.cons (And.intro rfl (AV.Le.refl _)) cellsLe.nil)) rfl) ?_
  ((conv=>whnf);repeat((first|apply TT mix|apply sE rfl|apply dG (by kernel_rfl)|fail);(conv=>whnf)))
  refine bnd h (fun x10 hx10 h => ?_)
  refine loop_iter (fun s8 : Bool × (List Int) × Int => mkF 41 [(0, (.mp 0 0 0)), (1, (.int .i32 p_r)), (5, (.int .i64 s8.2.2))] [some ⟨2, 67, (.vals [(.agg [(.mpn 0 0 0 s8.1), (.ms 1 s8.2.1.length)])]), false, false⟩, some ⟨1, 5, (.ints .u8 s8.2.1), false, true⟩]) hx10 (weak_gen [0, 2] rfl rfl (sK rfl (rowLe_vals (valsLe.cons (cellsLe.cons (cR rfl rfl) (cellsLe.cons (And.intro rfl (AV.Le.of_eq (congrArg (AV.ms _) (by first | rfl | omega | (simp; omega) | simp)))) cellsLe.nil)) valsLe.nil)) (sK rfl (rowLe_ints (by first | rfl | simp)) storeLe.nil)) (sQ rfl rfl)) ?_
  intro k10 s8 st10 Kn10 hn10 h10 hs10
  ((conv=>whnf);repeat((first|apply TT mix|apply sE rfl|apply dG (by kernel_rfl)|fail);(conv=>whnf)))
  refine br_b rfl h10 (fun c14 h10 => ?_) (fun c14 h10 => ?_)
  ·((conv=>whnf);repeat((first|apply TT mix|apply sE rfl|apply dG (by kernel_rfl)|fail);(conv=>whnf)))
   refine grd1 rfl h10 (fun h10 => ?_)
   ((conv=>whnf);repeat((first|apply TT mix|apply sE rfl|apply dG (by kernel_rfl)|fail);(conv=>whnf)))
   refine bnd h10 (fun y11 hy11 h10 => ?_)
   refine own_intro (own_call [0, 1] (c_strings_Builder_WriteByte_own _ _ _ _ hy11) rfl (sK rfl (rowLe_vals (valsLe.cons (cellsLe.cons (cR rfl rfl) (cellsLe.cons (And.intro rfl (AV.Le.of_eq (congrArg (AV.ms _) (by first | rfl | omega | (simp; omega) | simp)))) cellsLe.nil)) valsLe.nil)) (sK rfl (rowLe_ints (by first | rfl | simp)) storeLe.nil)) (cellsLe.cons (And.intro rfl (AV.Le.refl _)) (cellsLe.cons (And.intro rfl (AV.Le.refl _)) cellsLe.nil)) rfl) ?_
   have e := Option.some.inj h10; subst e
   ((conv=>whnf);repeat((first|apply TT mix|apply sE rfl|apply dG (by kernel_rfl)|fail);(conv=>whnf)))
   exact hn10 _ (y11.1, y11.2.1, (IntKind.wrap .i64 (s8.2.2 - (1 : Int)))) hs10 (weak_gen [0, 2] rfl rfl (sK rfl (rowLe_vals (valsLe.cons (cellsLe.cons (cR rfl rfl) (cellsLe.cons (And.intro rfl (AV.Le.of_eq (congrArg (AV.ms _) (by first | rfl | omega | (simp; omega) | simp)))) cellsLe.nil)) valsLe.nil)) (sK rfl (rowLe_ints (by first | rfl | simp)) storeLe.nil)) (sQ rfl rfl))
  ·have e := Option.some.inj h10; subst e
   have e := done_out hs10; subst e
   have e := Option.some.inj h; subst e
   ((conv=>whnf);repeat((first|apply TT mix|apply sE rfl|apply dG (by kernel_rfl)|fail);(conv=>whnf)))
   exact Or.inr (Or.inr (weak_gen [0, 1] rfl rfl (sK rfl (rowLe_vals (valsLe.cons (cellsLe.cons (cR rfl rfl) (cellsLe.cons (And.intro rfl (AV.Le.of_eq (congrArg (AV.ms _) (by first | rfl | omega | (simp; omega) | simp)))) cellsLe.nil)) valsLe.nil)) (sK rfl (rowLe_ints (by first | rfl | simp)) storeLe.nil)) (slotsLe.cons (cR rfl rfl) slotsLe.nil)))
theorem c_strings_Builder_String_own (p_b_0 : Bool) (p_b_1 : (List Int)) (r : Bool × (List Int) × ByteArray) (h : m_strings_Builder_String_own p_b_0 p_b_1 = some r) : ContractM 2 pl 32 [(.mp 0 0 0)] [some ⟨2, 67, (.vals [(.agg [(.mpn 0 0 0 p_b_0), (.ms 1 p_b_1.length)])]), false, false⟩, some ⟨1, 5, (.ints .u8 p_b_1), false, true⟩] (.str r.2.2) [some ⟨2, 67, (.vals [(.agg [(.mpn 0 0 0 r.1), (.ms 1 r.2.1.length)])]), false, false⟩, some ⟨1, 5, (.ints .u8 r.2.1), true, true⟩] := by
 refine contract_own 2 .z rfl Tryz.func32 rfl (by kernel_rfl) ?_
 ((conv=>whnf);repeat((first|apply TT mix|apply sE rfl|apply dG (by kernel_rfl)|fail);(conv=>whnf)))
 refine And.intro (by first | exact Nat.le_refl _ | (simp [Row.len]; try omega)) ?_
 ((conv=>whnf);repeat((first|apply TT mix|apply sE rfl|apply dG (by kernel_rfl)|fail);(conv=>whnf)))
 obtain ⟨p1, h⟩ := grdO h
 refine And.intro (by first | rfl | simp) (And.intro (by simp) (And.intro p1 ?_))
 have e := Option.some.inj h; subst e
 ((conv=>whnf);repeat((first|apply TT mix|apply sE rfl|apply dG (by kernel_rfl)|fail);(conv=>whnf)))
 exact Or.inr (Or.inr (weak_gen [0, 1] rfl rfl (sK rfl (rowLe_vals (valsLe.cons (cellsLe.cons (cR rfl rfl) (cellsLe.cons (And.intro rfl (AV.Le.of_eq (congrArg (AV.ms _) (by first | rfl | omega | (simp; omega) | simp)))) cellsLe.nil)) valsLe.nil)) (sK rfl (rowLe_ints (by first | rfl | simp)) storeLe.nil)) (slotsLe.cons (cR rfl rfl) slotsLe.nil)))
theorem c_utf_Encode (p_l : (List Int)) (r : ByteArray × Er) (h : m_utf_Encode p_l = some r) : Contract pl 14 [(e_L_i32 p_l)] [] (AV.tup [(AV.str r.1), (AV.err r.2)]) [] := by
 refine contract_of (.t false .z (.t false .z (.t true .z .z))) Tryz.func14 rfl (by kernel_rfl) ?_
 ((conv=>whnf);repeat((first|apply TT mix|apply sE rfl|apply dG (by kernel_rfl)|fail);(conv=>whnf)))
 refine bnd h (fun x14 h14 h => ?_)
 refine cut_at (fun s1 : Bool × (List Int) => mkF 24 [(4, (.mp 0 0 0))] [some ⟨2, 67, (.vals [(.agg [(.mpn 0 0 0 s1.1), (.ms 1 s1.2.length)])]), false, false⟩, some ⟨1, 5, (.ints .u8 s1.2), false, true⟩]) (fun s1 : Bool × (List Int) => m_utf_Encode_K2 s1 = some r) ?_ ?_
 ·intro Kn14 hn14
  ((conv=>whnf);repeat((first|apply TT mix|apply sE rfl|apply dG (by kernel_rfl)|fail);(conv=>whnf)))
  refine loop_iter (fun s5 : Bool × (List Int) × Int => mkF 24 [(4, (.mp 0 0 0)), (7, (e_L_i32 p_l)), (8, (.int .i64 ((p_l.length : Nat) : Int))), (9, (.int .i64 s5.2.2))] [some ⟨2, 67, (.vals [(.agg [(.mpn 0 0 0 s5.1), (.ms 1 s5.2.1.length)])]), false, false⟩, some ⟨1, 5, (.ints .u8 s5.2.1), false, true⟩]) h14 (weak_trans (weak_nilc 0 0 1 _ [(.agg [.nilp, (.sl (some true) 0 fun _ => .unk)])] [.nilp, (.sl (some true) 0 fun _ => .unk)] 1 5 (.ints .u8 []) _ rfl rfl rfl rfl rfl trivial (by first | exact Nat.zero_le _ | simp)) (weak_gen [0, 1] rfl rfl (sK rfl (rowLe_vals (valsLe.cons (cellsLe.cons (And.intro rfl (AV.Le.mpn_nil)) (cellsLe.cons (cR rfl rfl) cellsLe.nil)) valsLe.nil)) (sK rfl (rowLe_ints (by first | rfl | simp)) storeLe.nil)) (sQ rfl rfl))) ?_
  intro k7 s5 st7 Kn7 hn7 h7_ hs7
  ((conv=>whnf);repeat((first|apply TT mix|apply sE rfl|apply dG (by kernel_rfl)|fail);(conv=>whnf)))
  refine br_b rfl h7_ (fun c15 h7_ => ?_) (fun c15 h7_ => ?_)
  ·((conv=>whnf);repeat((first|apply TT mix|apply sE rfl|apply dG (by kernel_rfl)|fail);(conv=>whnf)))
   refine grd2 rfl rfl h7_ (fun h7_ => ?_)
   ((conv=>whnf);repeat((first|apply TT mix|apply sE rfl|apply dG (by kernel_rfl)|fail);(conv=>whnf)))
   refine bnd h7_ (fun y8 hy8 h7_ => ?_)
   refine Or.inl ⟨_, c_utf_Right _ _ hy8, rfl, ?_⟩
   ((conv=>whnf);repeat((first|apply TT mix|apply sE rfl|apply dG (by kernel_rfl)|fail);(conv=>whnf)))
   refine br_b rfl h7_ (fun c16 h7_ => ?_) (fun c16 h7_ => ?_)
   ·((conv=>whnf);repeat((first|apply TT mix|apply sE rfl|apply dG (by kernel_rfl)|fail);(conv=>whnf)))
    refine bnd h7_ (fun y9 hy9 h7_ => ?_)
    refine Or.inl ⟨_, c_utf_fault _ _ _ hy9, rfl, ?_⟩
    have e := Option.some.inj h7_; subst e
    have e := done_out hs7; subst e
    have e := Option.some.inj h; subst e
    ((conv=>whnf);repeat((first|apply TT mix|apply sE rfl|apply dG (by kernel_rfl)|fail);(conv=>whnf)))
    exact And.intro (AV.Le.refl _) rfl
   ·((conv=>whnf);repeat((first|apply TT mix|apply sE rfl|apply dG (by kernel_rfl)|fail);(conv=>whnf)))
    refine bnd h7_ (fun y10 hy10 h7_ => ?_)
    refine own_intro (own_call [0, 1] (c_utf_put_own _ _ _ _ hy10) rfl (sK rfl (rowLe_vals (valsLe.cons (cellsLe.cons (cR rfl rfl) (cellsLe.cons (And.intro rfl (AV.Le.of_eq (congrArg (AV.ms _) (by first | rfl | omega | (simp; omega) | simp)))) cellsLe.nil)) valsLe.nil)) (sK rfl (rowLe_ints (by first | rfl | simp)) storeLe.nil)) (cellsLe.cons (And.intro rfl (AV.Le.refl _)) (cellsLe.cons (And.intro rfl (AV.Le.refl _)) cellsLe.nil)) rfl) ?_
    have e := Option.some.inj h7_; subst e
    ((conv=>whnf);repeat((first|apply TT mix|apply sE rfl|apply dG (by kernel_rfl)|fail);(conv=>whnf)))
    exact hn7 _ (y10.1, y10.2, (IntKind.wrap .i64 (s5.2.2 + (1 : Int)))) hs7 (weak_gen [0, 2] rfl rfl (sK rfl (rowLe_vals (valsLe.cons (cellsLe.cons (cR rfl rfl) (cellsLe.cons (And.intro rfl (AV.Le.of_eq (congrArg (AV.ms _) (by first | rfl | omega | (simp; omega) | simp)))) cellsLe.nil)) valsLe.nil)) (sK rfl (rowLe_ints (by first | rfl | simp)) storeLe.nil)) (sQ rfl rfl))
  ·have e := Option.some.inj h7_; subst e
   have e := done_out hs7; subst e
   ((conv=>whnf);repeat((first|apply TT mix|apply sE rfl|apply dG (by kernel_rfl)|fail);(conv=>whnf)))
   exact hn14 _ (s5.1, s5.2.1) h (weak_gen [0, 1] rfl rfl (sK rfl (rowLe_vals (valsLe.cons (cellsLe.cons (cR rfl rfl) (cellsLe.cons (And.intro rfl (AV.Le.of_eq (congrArg (AV.ms _) (by first | rfl | omega | (simp; omega) | simp)))) cellsLe.nil)) valsLe.nil)) (sK rfl (rowLe_ints (by first | rfl | simp)) storeLe.nil)) (slotsLe.cons (cR rfl rfl) slotsLe.nil))
 ·clear h h14
  intro s1 hc17
  ((conv=>whnf);repeat((first|apply TT mix|apply sE rfl|apply dG (by kernel_rfl)|fail);(conv=>whnf)))
  refine bnd hc17 (fun y3 hy3 hc17 => ?_)
  refine own_intro (own_call [0, 1] (c_strings_Builder_String_own _ _ _ hy3) rfl (sK rfl (rowLe_vals (valsLe.cons (cellsLe.cons (cR rfl rfl) (cellsLe.cons (And.intro rfl (AV.Le.of_eq (congrArg (AV.ms _) (by first | rfl | omega | (simp; omega) | simp)))) cellsLe.nil)) valsLe.nil)) (sK rfl (rowLe_ints (by first | rfl | simp)) storeLe.nil)) (cellsLe.cons (And.intro rfl (AV.Le.refl _)) cellsLe.nil) rfl) ?_
  ((conv=>whnf);repeat((first|apply TT mix|apply sE rfl|apply dG (by kernel_rfl)|fail);(conv=>whnf)))
  obtain ⟨p18, hc17⟩ := grdO hc17
  have e := Option.some.inj hc17; subst e
  ((conv=>whnf);repeat((first|apply TT mix|apply sE rfl|apply dG (by kernel_rfl)|fail);(conv=>whnf)))
  exact And.intro (AV.Le.tup (argsLe.cons (AV.Le.refl _) (argsLe.cons (AV.Le.err_nil) argsLe.nil))) rfl
theorem c_comp_Text (p_t : T_api_Norm) (p_s : ByteArray) (r : ByteArray × Er) (h : m_comp_Text p_t p_s = some r) : Contract pl 7 [(e_api_Norm p_t), (AV.str p_s)] [] (AV.tup [(AV.str r.1), (AV.err r.2)]) [] := by
 refine contract_of .z Tryz.func7 rfl (by kernel_rfl) ?_
 ((conv=>whnf);repeat((first|apply TT mix|apply sE rfl|apply dG (by kernel_rfl)|fail);(conv=>whnf)))
 refine bnd h (fun y1 hy1 h => ?_)
 refine Or.inl ⟨_, c_utf_Decode _ _ hy1, rfl, ?_⟩
 ((conv=>whnf);repeat((first|apply TT mix|apply sE rfl|apply dG (by kernel_rfl)|fail);(conv=>whnf)))
 refine br_b rfl h (fun c4 h => ?_) (fun c4 h => ?_)
 ·have e := Option.some.inj h; subst e
  ((conv=>whnf);repeat((first|apply TT mix|apply sE rfl|apply dG (by kernel_rfl)|fail);(conv=>whnf)))
  exact And.intro (AV.Le.refl _) rfl
 ·((conv=>whnf);repeat((first|apply TT mix|apply sE rfl|apply dG (by kernel_rfl)|fail);(conv=>whnf)))
  refine bnd h (fun y2 hy2 h => ?_)
  refine Or.inl ⟨_, c_comp_All _ _ _ hy2, rfl, ?_⟩
  ((conv=>whnf);repeat((first|apply TT mix|apply sE rfl|apply dG (by kernel_rfl)|fail);(conv=>whnf)))
  refine bnd h (fun y3 hy3 h => ?_)
  refine Or.inl ⟨_, c_utf_Encode _ _ hy3, rfl, ?_⟩
  have e := Option.some.inj h; subst e
  ((conv=>whnf);repeat((first|apply TT mix|apply sE rfl|apply dG (by kernel_rfl)|fail);(conv=>whnf)))
  exact And.intro (AV.Le.refl _) rfl
theorem c_eponymref01_value (p_s : ByteArray) (r : Int) (h : m_eponymref01_value p_s = some r) : Contract pl 54 [(AV.str p_s)] [] (AV.int .i32 r) [] := by
 refine contract_of (.t false .z (.t false .z (.t false .z (.t false (.t true .z .z) (.t false .z (.t true (.t true .z .z) (.t true (.t true .z .z) (.t true (.t true .z .z) (.t false .z (.t true (.t false .z (.t false (.t false (.t false .z (.t false (.t false (.t false (.t true .z .z) .z) .z) .z)) .z) .z)) .z)))))))))) Tryz.func54 rfl (by kernel_rfl) ?_
 ((conv=>whnf);repeat((first|apply TT mix|apply sE rfl|apply dG (by kernel_rfl)|fail);(conv=>whnf)))
 refine grd2 rfl rfl h (fun h => ?_)
 ((conv=>whnf);repeat((first|apply TT mix|apply sE rfl|apply dG (by kernel_rfl)|fail);(conv=>whnf)))
 refine bnd h (fun x26 h26 h => ?_)
 refine cut_at (fun s1 : Bool => mkF 81 [(0, (.str p_s)), (3, (.int .i32 (IntKind.wrap .i32 (bt p_s (0 : Int))))), (4, (.int .i64 ((p_s.size : Nat) : Int))), (17, (.bool s1))] []) (fun s1 : Bool => m_eponymref01_value_K2 p_s s1 = some r) ?_ ?_
 ·intro Kn26 hn26
  ((conv=>whnf);repeat((first|apply TT mix|apply sE rfl|apply dG (by kernel_rfl)|fail);(conv=>whnf)))
  refine br_b rfl h26 (fun c27 h26 => ?_) (fun c27 h26 => ?_)
  ·have e := Option.some.inj h26; subst e
   ((conv=>whnf);repeat((first|apply TT mix|apply sE rfl|apply dG (by kernel_rfl)|fail);(conv=>whnf)))
   exact hn26 _ (decide ((IntKind.wrap .i32 (bt p_s (0 : Int))) < (128 : Int))) h (weak_gen [] rfl rfl storeLe.nil (sQ rfl rfl))
  ·have e := Option.some.inj h26; subst e
   ((conv=>whnf);repeat((first|apply TT mix|apply sE rfl|apply dG (by kernel_rfl)|fail);(conv=>whnf)))
   exact hn26 _ false h (weak_gen [] rfl rfl storeLe.nil (sQ rfl rfl))
 ·clear h h26
  intro s1 hc28
  ((conv=>whnf);repeat((first|apply TT mix|apply sE rfl|apply dG (by kernel_rfl)|fail);(conv=>whnf)))
  refine br_b rfl hc28 (fun c29 hc28 => ?_) (fun c29 hc28 => ?_)
  ·have e := Option.some.inj hc28; subst e
   ((conv=>whnf);repeat((first|apply TT mix|apply sE rfl|apply dG (by kernel_rfl)|fail);(conv=>whnf)))
   exact And.intro (AV.Le.refl _) rfl
  ·((conv=>whnf);repeat((first|apply TT mix|apply sE rfl|apply dG (by kernel_rfl)|fail);(conv=>whnf)))
   refine bnd hc28 (fun x30 h30 hc28 => ?_)
   refine cut_at (fun s3 : Int => mkF 81 [(0, (.str p_s)), (3, (.int .i32 (IntKind.wrap .i32 (bt p_s (0 : Int))))), (4, (.int .i64 ((p_s.size : Nat) : Int))), (5, (.int .i32 s3))] []) (fun s3 : Int => m_eponymref01_value_K4 p_s s3 = some r) ?_ ?_
   ·intro Kn30 hn30
    ((conv=>whnf);repeat((first|apply TT mix|apply sE rfl|apply dG (by kernel_rfl)|fail);(conv=>whnf)))
    refine bnd h30 (fun x31 h31 h30 => ?_)
    refine cut_at (fun s24 : Bool => mkF 81 [(0, (.str p_s)), (3, (.int .i32 (IntKind.wrap .i32 (bt p_s (0 : Int))))), (4, (.int .i64 ((p_s.size : Nat) : Int))), (5, (.int .i32 (-1 : Int))), (28, (.bool s24))] []) (fun s24 : Bool => m_eponymref01_value_K25 p_s s24 = some x30) ?_ ?_
    ·intro Kn31 hn31
     ((conv=>whnf);repeat((first|apply TT mix|apply sE rfl|apply dG (by kernel_rfl)|fail);(conv=>whnf)))
     refine br_b rfl h31 (fun c32 h31 => ?_) (fun c32 h31 => ?_)
     ·((conv=>whnf);repeat((first|apply TT mix|apply sE rfl|apply dG (by kernel_rfl)|fail);(conv=>whnf)))
      refine br_b rfl h31 (fun c33 h31 => ?_) (fun c33 h31 => ?_)
      ·have e := Option.some.inj h31; subst e
       ((conv=>whnf);repeat((first|apply TT mix|apply sE rfl|apply dG (by kernel_rfl)|fail);(conv=>whnf)))
       exact hn31 _ (decide ((IntKind.wrap .i32 (bt p_s (0 : Int))) < (224 : Int))) h30 (weak_gen [] rfl rfl storeLe.nil (sQ rfl rfl))
      ·have e := Option.some.inj h31; subst e
       ((conv=>whnf);repeat((first|apply TT mix|apply sE rfl|apply dG (by kernel_rfl)|fail);(conv=>whnf)))
       exact hn31 _ false h30 (weak_gen [] rfl rfl storeLe.nil (sQ rfl rfl))
     ·have e := Option.some.inj h31; subst e
      ((conv=>whnf);repeat((first|apply TT mix|apply sE rfl|apply dG (by kernel_rfl)|fail);(conv=>whnf)))
      exact hn31 _ false h30 (weak_gen [] rfl rfl storeLe.nil (sQ rfl rfl))
    ·clear h30 h31
     intro s24 hc34
     ((conv=>whnf);repeat((first|apply TT mix|apply sE rfl|apply dG (by kernel_rfl)|fail);(conv=>whnf)))
     refine br_b rfl hc34 (fun c35 hc34 => ?_) (fun c35 hc34 => ?_)
     ·have e := Option.some.inj hc34; subst e
      ((conv=>whnf);repeat((first|apply TT mix|apply sE rfl|apply dG (by kernel_rfl)|fail);(conv=>whnf)))
      exact hn30 _ (IntKind.wrap .i32 ((IntKind.wrap .i32 (bt p_s (0 : Int))) - (192 : Int))) hc28 (weak_gen [] rfl rfl storeLe.nil (sQ rfl rfl))
     ·have e := Option.some.inj hc34; subst e
      ((conv=>whnf);repeat((first|apply TT mix|apply sE rfl|apply dG (by kernel_rfl)|fail);(conv=>whnf)))
      exact hn30 _ (-1 : Int) hc28 (weak_gen [] rfl rfl storeLe.nil (sQ rfl rfl))
   ·clear hc28 h30
    intro s3 hc36
    ((conv=>whnf);repeat((first|apply TT mix|apply sE rfl|apply dG (by kernel_rfl)|fail);(conv=>whnf)))
    refine bnd hc36 (fun x37 h37 hc36 => ?_)
    refine cut_at (fun s5 : Int => mkF 81 [(0, (.str p_s)), (3, (.int .i32 (IntKind.wrap .i32 (bt p_s (0 : Int))))), (4, (.int .i64 ((p_s.size : Nat) : Int))), (5, (.int .i32 s5))] []) (fun s5 : Int => m_eponymref01_value_K6 p_s s5 = some r) ?_ ?_
    ·intro Kn37 hn37
     ((conv=>whnf);repeat((first|apply TT mix|apply sE rfl|apply dG (by kernel_rfl)|fail);(conv=>whnf)))
     refine bnd h37 (fun x38 h38 h37 => ?_)
     refine cut_at (fun s22 : Bool => mkF 81 [(0, (.str p_s)), (3, (.int .i32 (IntKind.wrap .i32 (bt p_s (0 : Int))))), (4, (.int .i64 ((p_s.size : Nat) : Int))), (5, (.int .i32 s3)), (40, (.bool s22))] []) (fun s22 : Bool => m_eponymref01_value_K23 p_s s3 s22 = some x37) ?_ ?_
     ·intro Kn38 hn38
      ((conv=>whnf);repeat((first|apply TT mix|apply sE rfl|apply dG (by kernel_rfl)|fail);(conv=>whnf)))
      refine br_b rfl h38 (fun c39 h38 => ?_) (fun c39 h38 => ?_)
      ·((conv=>whnf);repeat((first|apply TT mix|apply sE rfl|apply dG (by kernel_rfl)|fail);(conv=>whnf)))
       refine br_b rfl h38 (fun c40 h38 => ?_) (fun c40 h38 => ?_)
       ·have e := Option.some.inj h38; subst e
        ((conv=>whnf);repeat((first|apply TT mix|apply sE rfl|apply dG (by kernel_rfl)|fail);(conv=>whnf)))
        exact hn38 _ (decide ((IntKind.wrap .i32 (bt p_s (0 : Int))) < (240 : Int))) h37 (weak_gen [] rfl rfl storeLe.nil (sQ rfl rfl))
       ·have e := Option.some.inj h38; subst e
        ((conv=>whnf);repeat((first|apply TT mix|apply sE rfl|apply dG (by kernel_rfl)|fail);(conv=>whnf)))
        exact hn38 _ false h37 (weak_gen [] rfl rfl storeLe.nil (sQ rfl rfl))
      ·have e := Option.some.inj h38; subst e
       ((conv=>whnf);repeat((first|apply TT mix|apply sE rfl|apply dG (by kernel_rfl)|fail);(conv=>whnf)))
       exact hn38 _ false h37 (weak_gen [] rfl rfl storeLe.nil (sQ rfl rfl))
     ·clear h37 h38
      intro s22 hc41
      ((conv=>whnf);repeat((first|apply TT mix|apply sE rfl|apply dG (by kernel_rfl)|fail);(conv=>whnf)))
      refine br_b rfl hc41 (fun c42 hc41 => ?_) (fun c42 hc41 => ?_)
      ·have e := Option.some.inj hc41; subst e
       ((conv=>whnf);repeat((first|apply TT mix|apply sE rfl|apply dG (by kernel_rfl)|fail);(conv=>whnf)))
       exact hn37 _ (IntKind.wrap .i32 ((IntKind.wrap .i32 (bt p_s (0 : Int))) - (224 : Int))) hc36 (weak_gen [] rfl rfl storeLe.nil (sQ rfl rfl))
      ·have e := Option.some.inj hc41; subst e
       ((conv=>whnf);repeat((first|apply TT mix|apply sE rfl|apply dG (by kernel_rfl)|fail);(conv=>whnf)))
       exact hn37 _ s3 hc36 (weak_gen [] rfl rfl storeLe.nil (sQ rfl rfl))
    ·clear hc36 h37
     intro s5 hc43
     ((conv=>whnf);repeat((first|apply TT mix|apply sE rfl|apply dG (by kernel_rfl)|fail);(conv=>whnf)))
     refine bnd hc43 (fun x44 h44 hc43 => ?_)
     refine cut_at (fun s7 : Int => mkF 81 [(0, (.str p_s)), (4, (.int .i64 ((p_s.size : Nat) : Int))), (5, (.int .i32 s7))] []) (fun s7 : Int => m_eponymref01_value_K8 p_s s7 = some r) ?_ ?_
     ·intro Kn44 hn44
      ((conv=>whnf);repeat((first|apply TT mix|apply sE rfl|apply dG (by kernel_rfl)|fail);(conv=>whnf)))
      refine bnd h44 (fun x45 h45 h44 => ?_)
      refine cut_at (fun s20 : Bool => mkF 81 [(0, (.str p_s)), (3, (.int .i32 (IntKind.wrap .i32 (bt p_s (0 : Int))))), (4, (.int .i64 ((p_s.size : Nat) : Int))), (5, (.int .i32 s5)), (52, (.bool s20))] []) (fun s20 : Bool => m_eponymref01_value_K21 p_s s5 s20 = some x44) ?_ ?_
      ·intro Kn45 hn45
       ((conv=>whnf);repeat((first|apply TT mix|apply sE rfl|apply dG (by kernel_rfl)|fail);(conv=>whnf)))
       refine br_b rfl h45 (fun c46 h45 => ?_) (fun c46 h45 => ?_)
       ·((conv=>whnf);repeat((first|apply TT mix|apply sE rfl|apply dG (by kernel_rfl)|fail);(conv=>whnf)))
        refine br_b rfl h45 (fun c47 h45 => ?_) (fun c47 h45 => ?_)
        ·have e := Option.some.inj h45; subst e
         ((conv=>whnf);repeat((first|apply TT mix|apply sE rfl|apply dG (by kernel_rfl)|fail);(conv=>whnf)))
         exact hn45 _ (decide ((IntKind.wrap .i32 (bt p_s (0 : Int))) < (248 : Int))) h44 (weak_gen [] rfl rfl storeLe.nil (sQ rfl rfl))
        ·have e := Option.some.inj h45; subst e
         ((conv=>whnf);repeat((first|apply TT mix|apply sE rfl|apply dG (by kernel_rfl)|fail);(conv=>whnf)))
         exact hn45 _ false h44 (weak_gen [] rfl rfl storeLe.nil (sQ rfl rfl))
       ·have e := Option.some.inj h45; subst e
        ((conv=>whnf);repeat((first|apply TT mix|apply sE rfl|apply dG (by kernel_rfl)|fail);(conv=>whnf)))
        exact hn45 _ false h44 (weak_gen [] rfl rfl storeLe.nil (sQ rfl rfl))
      ·clear h44 h45
       intro s20 hc48
       ((conv=>whnf);repeat((first|apply TT mix|apply sE rfl|apply dG (by kernel_rfl)|fail);(conv=>whnf)))
       refine br_b rfl hc48 (fun c49 hc48 => ?_) (fun c49 hc48 => ?_)
       ·have e := Option.some.inj hc48; subst e
        ((conv=>whnf);repeat((first|apply TT mix|apply sE rfl|apply dG (by kernel_rfl)|fail);(conv=>whnf)))
        exact hn44 _ (IntKind.wrap .i32 ((IntKind.wrap .i32 (bt p_s (0 : Int))) - (240 : Int))) hc43 (weak_gen [] rfl rfl storeLe.nil (sQ rfl rfl))
       ·have e := Option.some.inj hc48; subst e
        ((conv=>whnf);repeat((first|apply TT mix|apply sE rfl|apply dG (by kernel_rfl)|fail);(conv=>whnf)))
        exact hn44 _ s5 hc43 (weak_gen [] rfl rfl storeLe.nil (sQ rfl rfl))
     ·clear hc43 h44
      intro s7 hc50
      ((conv=>whnf);repeat((first|apply TT mix|apply sE rfl|apply dG (by kernel_rfl)|fail);(conv=>whnf)))
      refine br_b rfl hc50 (fun c51 hc50 => ?_) (fun c51 hc50 => ?_)
      ·have e := Option.some.inj hc50; subst e
       ((conv=>whnf);repeat((first|apply TT mix|apply sE rfl|apply dG (by kernel_rfl)|fail);(conv=>whnf)))
       exact And.intro (AV.Le.refl _) rfl
      ·((conv=>whnf);repeat((first|apply TT mix|apply sE rfl|apply dG (by kernel_rfl)|fail);(conv=>whnf)))
       refine bnd hc50 (fun x52 h52 hc50 => ?_)
       refine cut_at (fun s9 : Int => mkF 81 [(5, (.int .i32 s9))] []) (fun s9 : Int => some s9 = some r) ?_ ?_
       ·intro Kn52 hn52
        ((conv=>whnf);repeat((first|apply TT mix|apply sE rfl|apply dG (by kernel_rfl)|fail);(conv=>whnf)))
        refine loop_iter (fun s12 : Int × Int => mkF 81 [(0, (.str p_s)), (4, (.int .i64 ((p_s.size : Nat) : Int))), (5, (.int .i32 s12.1)), (6, (.int .i64 s12.2))] []) h52 (weak_gen [] rfl rfl storeLe.nil (sQ rfl rfl)) ?_
        intro k14 s12 st14 Kn14 hn14 h14_ hs14
        ((conv=>whnf);repeat((first|apply TT mix|apply sE rfl|apply dG (by kernel_rfl)|fail);(conv=>whnf)))
        refine br_b rfl h14_ (fun c53 h14_ => ?_) (fun c53 h14_ => ?_)
        ·((conv=>whnf);repeat((first|apply TT mix|apply sE rfl|apply dG (by kernel_rfl)|fail);(conv=>whnf)))
         refine bnd h14_ (fun x54 h54 h14_ => ?_)
         refine cut_at (fun s15 : Bool => mkF 81 [(0, (.str p_s)), (4, (.int .i64 ((p_s.size : Nat) : Int))), (5, (.int .i32 s12.1)), (6, (.int .i64 s12.2)), (71, (.bool s15))] []) (fun s15 : Bool => m_eponymref01_value_K16 p_s s12 s15 = some st14) ?_ ?_
         ·intro Kn54 hn54
          ((conv=>whnf);repeat((first|apply TT mix|apply sE rfl|apply dG (by kernel_rfl)|fail);(conv=>whnf)))
          refine grd2 rfl rfl h54 (fun h54 => ?_)
          ((conv=>whnf);repeat((first|apply TT mix|apply sE rfl|apply dG (by kernel_rfl)|fail);(conv=>whnf)))
          refine br_b rfl h54 (fun c55 h54 => ?_) (fun c55 h54 => ?_)
          ·have e := Option.some.inj h54; subst e
           ((conv=>whnf);repeat((first|apply TT mix|apply sE rfl|apply dG (by kernel_rfl)|fail);(conv=>whnf)))
           exact hn54 _ true h14_ (weak_gen [] rfl rfl storeLe.nil (sQ rfl rfl))
          ·((conv=>whnf);repeat((first|apply TT mix|apply sE rfl|apply dG (by kernel_rfl)|fail);(conv=>whnf)))
           refine grd2 rfl rfl h54 (fun h54 => ?_)
           have e := Option.some.inj h54; subst e
           ((conv=>whnf);repeat((first|apply TT mix|apply sE rfl|apply dG (by kernel_rfl)|fail);(conv=>whnf)))
           exact hn54 _ (decide ((bt p_s s12.2) > (191 : Int))) h14_ (weak_gen [] rfl rfl storeLe.nil (sQ rfl rfl))
         ·clear h14_ h54
          intro s15 hc56
          ((conv=>whnf);repeat((first|apply TT mix|apply sE rfl|apply dG (by kernel_rfl)|fail);(conv=>whnf)))
          refine br_b rfl hc56 (fun c57 hc56 => ?_) (fun c57 hc56 => ?_)
          ·have e := Option.some.inj hc56; subst e
           have e := done_out hs14; subst e
           have e := Option.some.inj hc50; subst e
           ((conv=>whnf);repeat((first|apply TT mix|apply sE rfl|apply dG (by kernel_rfl)|fail);(conv=>whnf)))
           exact And.intro (AV.Le.refl _) rfl
          ·((conv=>whnf);repeat((first|apply TT mix|apply sE rfl|apply dG (by kernel_rfl)|fail);(conv=>whnf)))
           refine grd2 rfl rfl hc56 (fun hc56 => ?_)
           have e := Option.some.inj hc56; subst e
           ((conv=>whnf);repeat((first|apply TT mix|apply sE rfl|apply dG (by kernel_rfl)|fail);(conv=>whnf)))
           exact hn14 _ ((IntKind.wrap .i32 ((IntKind.wrap .i32 ((IntKind.wrap .i32 (s12.1 * (64 : Int))) + (IntKind.wrap .i32 (bt p_s s12.2)))) - (128 : Int))), (IntKind.wrap .i64 (s12.2 + (1 : Int)))) hs14 (weak_gen [] rfl rfl storeLe.nil (sQ rfl rfl))
        ·have e := Option.some.inj h14_; subst e
         have e := done_out hs14; subst e
         ((conv=>whnf);repeat((first|apply TT mix|apply sE rfl|apply dG (by kernel_rfl)|fail);(conv=>whnf)))
         exact hn52 _ s12.1 hc50 (weak_gen [] rfl rfl storeLe.nil (slotsLe.cons (cR rfl rfl) slotsLe.nil))
       ·clear hc50 h52
        intro s9 hc58
        have e := Option.some.inj hc58; subst e
        ((conv=>whnf);repeat((first|apply TT mix|apply sE rfl|apply dG (by kernel_rfl)|fail);(conv=>whnf)))
        exact And.intro (AV.Le.refl _) rfl
end Go.Proofs.YtjhgaacecfmadaaGreatDoor
