/- Contracts of functions, walked by their models; printed by a program of ours. No condition. -/
import Derived.Test.YtjhgaacecfmadaaGreatDoorK2
import Derived.Test.YtjhgaacecfmadaaGreatDoorRefOne
import Derived.Test.YtjhgaacecfmadaaGreatDoorProg
import Derived.KernelRfl
namespace Go.Proofs.YtjhgaacecfmadaaGreatDoor
open Go Go.SE
set_option linter.unusedVariables false
set_option linter.unusedSimpArgs false
set_option maxRecDepth 10000
set_option maxHeartbeats 2000000
attribute [local irreducible] Contract iter
theorem c_eponymref04_Order (p_t : T_api_Norm) (p_l : (List Int)) (r : (List Int)) (h : m_eponymref04_Order p_t p_l = some r) : Contract pl 58 [(e_api_Norm p_t), (e_L_i32 p_l)] [] (e_L_i32 r) [] := by
 refine contract_of (.t false .z (.t false .z (.t true (.t false .z (.t false (.t false (.t false .z (.t false (.t false .z (.t false .z (.t false (.t false (.t false .z (.t false (.t false (.t false .z (.t false .z (.t true .z .z))) .z) .z)) .z) .z))) .z)) .z) .z)) .z))) Tryz.func58 rfl (by kernel_rfl) ?_
 ((conv=>whnf);repeat((first|apply TT mix|apply sE rfl|apply dG (by kernel_rfl)|fail);(conv=>whnf)))
 obtain ⟨p17, h⟩ := grdO h
 refine ⟨[], p_l.length, (.ints .i32 p_l), ⟨rfl, rfl, fun j hj => rfl⟩, trivial, fun j hj => rfl, ?_⟩
 conv => whnf
 refine ⟨by simp [Row.len]; try omega, p17, by omega, ?_⟩
 ((conv=>whnf);repeat((first|apply TT mix|apply sE rfl|apply dG (by kernel_rfl)|fail);(conv=>whnf)))
 refine bnd h (fun x18 h18 h => ?_)
 refine cut_at (fun s1 : (List Int) => mkF 57 [(5, (.ms 0 s1.length))] [some ⟨1, 21, (.ints .i32 s1), false, false⟩]) (fun s1 : (List Int) => some s1 = some r) ?_ ?_
 ·intro Kn18 hn18
  ((conv=>whnf);repeat((first|apply TT mix|apply sE rfl|apply dG (by kernel_rfl)|fail);(conv=>whnf)))
  refine loop_iter (fun s4 : (List Int) × Bool => mkF 57 [(2, (.mp 0 0 0)), (5, (.ms 1 s4.1.length)), (6, (.bool s4.2))] [some ⟨3, 26, (.vals [(e_api_Norm p_t)]), false, false⟩, some ⟨1, 21, (.ints .i32 s4.1), false, false⟩]) h18 (weak_gen [0, 2] rfl rfl (sK rfl (rowLe_vals (valsLe.cons (cellsLe_refl rfl) valsLe.nil)) (sK rfl (rowLe_ints (by first | rfl | simp)) storeLe.nil)) (slotsLe.cons (cR rfl rfl) (slotsLe.cons (And.intro rfl (AV.Le.of_eq (congrArg (AV.ms _) (by first | rfl | omega | (simp; omega) | simp)))) (slotsLe.cons (cR rfl rfl) slotsLe.nil)))) ?_
  intro k6 s4 st6 Kn6 hn6 h6_ hs6
  ((conv=>whnf);repeat((first|apply TT mix|apply sE rfl|apply dG (by kernel_rfl)|fail);(conv=>whnf)))
  refine br_b rfl h6_ (fun c19 h6_ => ?_) (fun c19 h6_ => ?_)
  ·((conv=>whnf);repeat((first|apply TT mix|apply sE rfl|apply dG (by kernel_rfl)|fail);(conv=>whnf)))
   refine bnd h6_ (fun x10 hx10 h6_ => ?_)
   refine loop_iter (fun s8 : (List Int) × Bool × Int => mkF 57 [(2, (.mp 0 0 0)), (5, (.ms 1 s8.1.length)), (6, (.bool s8.2.1)), (7, (.int .i64 s8.2.2))] [some ⟨3, 26, (.vals [(e_api_Norm p_t)]), false, false⟩, some ⟨1, 21, (.ints .i32 s8.1), false, false⟩]) hx10 (weak_gen [0, 1] rfl rfl (sK rfl (rowLe_vals (valsLe.cons (cellsLe_refl rfl) valsLe.nil)) (sK rfl (rowLe_ints (by first | rfl | simp)) storeLe.nil)) (slotsLe.cons (cR rfl rfl) (slotsLe.cons (And.intro rfl (AV.Le.of_eq (congrArg (AV.ms _) (by first | rfl | omega | (simp; omega) | simp)))) (slotsLe.cons (cR rfl rfl) (slotsLe.cons (cR rfl rfl) slotsLe.nil))))) ?_
   intro k10 s8 st10 Kn10 hn10 h10 hs10
   ((conv=>whnf);repeat((first|apply TT mix|apply sE rfl|apply dG (by kernel_rfl)|fail);(conv=>whnf)))
   refine br_b rfl h10 (fun c20 h10 => ?_) (fun c20 h10 => ?_)
   ·((conv=>whnf);repeat((first|apply TT mix|apply sE rfl|apply dG (by kernel_rfl)|fail);(conv=>whnf)))
    refine grd2 rfl rfl h10 (fun h10 => ?_)
    ((conv=>whnf);repeat((first|apply TT mix|apply sE rfl|apply dG (by kernel_rfl)|fail);(conv=>whnf)))
    refine bnd h10 (fun y11 hy11 h10 => ?_)
    refine Or.inl ⟨_, c_eponymref04_Class _ _ _ hy11, rfl, ?_⟩
    ((conv=>whnf);repeat((first|apply TT mix|apply sE rfl|apply dG (by kernel_rfl)|fail);(conv=>whnf)))
    refine grd2 rfl rfl h10 (fun h10 => ?_)
    ((conv=>whnf);repeat((first|apply TT mix|apply sE rfl|apply dG (by kernel_rfl)|fail);(conv=>whnf)))
    refine bnd h10 (fun y12 hy12 h10 => ?_)
    refine Or.inl ⟨_, c_eponymref04_Class _ _ _ hy12, rfl, ?_⟩
    ((conv=>whnf);repeat((first|apply TT mix|apply sE rfl|apply dG (by kernel_rfl)|fail);(conv=>whnf)))
    refine bnd h10 (fun x21 h21 h10 => ?_)
    refine cut_at (fun s13 : Bool => mkF 57 [(2, (.mp 0 0 0)), (5, (.ms 1 s8.1.length)), (6, (.bool s8.2.1)), (7, (.int .i64 s8.2.2)), (39, (.bool s13))] [some ⟨3, 26, (.vals [(e_api_Norm p_t)]), false, false⟩, some ⟨1, 21, (.ints .i32 s8.1), false, false⟩]) (fun s13 : Bool => m_eponymref04_Order_K14 s8 s13 = some st10) ?_ ?_
    ·intro Kn21 hn21
     ((conv=>whnf);repeat((first|apply TT mix|apply sE rfl|apply dG (by kernel_rfl)|fail);(conv=>whnf)))
     refine br_b rfl h21 (fun c22 h21 => ?_) (fun c22 h21 => ?_)
     ·have e := Option.some.inj h21; subst e
      ((conv=>whnf);repeat((first|apply TT mix|apply sE rfl|apply dG (by kernel_rfl)|fail);(conv=>whnf)))
      exact hn21 _ (decide (y11 > y12)) h10 (weak_gen [0, 1] rfl rfl (sK rfl (rowLe_vals (valsLe.cons (cellsLe_refl rfl) valsLe.nil)) (sK rfl (by first | exact rowLe_same fun _ _ _ => rfl | (simp; exact rowLe_same fun _ _ _ => rfl)) storeLe.nil)) (slotsLe.cons (cR rfl rfl) (slotsLe.cons (And.intro rfl (AV.Le.of_eq (congrArg (AV.ms _) (by first | rfl | omega | (simp; omega) | simp)))) (slotsLe.cons (cR rfl rfl) (slotsLe.cons (cR rfl rfl) (slotsLe.cons (cR rfl rfl) slotsLe.nil))))))
     ·have e := Option.some.inj h21; subst e
      ((conv=>whnf);repeat((first|apply TT mix|apply sE rfl|apply dG (by kernel_rfl)|fail);(conv=>whnf)))
      exact hn21 _ false h10 (weak_gen [0, 1] rfl rfl (sK rfl (rowLe_vals (valsLe.cons (cellsLe_refl rfl) valsLe.nil)) (sK rfl (by first | exact rowLe_same fun _ _ _ => rfl | (simp; exact rowLe_same fun _ _ _ => rfl)) storeLe.nil)) (slotsLe.cons (cR rfl rfl) (slotsLe.cons (And.intro rfl (AV.Le.of_eq (congrArg (AV.ms _) (by first | rfl | omega | (simp; omega) | simp)))) (slotsLe.cons (cR rfl rfl) (slotsLe.cons (cR rfl rfl) (slotsLe.cons (cR rfl rfl) slotsLe.nil))))))
    ·clear h10 h21
     intro s13 hc23
     ((conv=>whnf);repeat((first|apply TT mix|apply sE rfl|apply dG (by kernel_rfl)|fail);(conv=>whnf)))
     refine br_b rfl hc23 (fun c24 hc23 => ?_) (fun c24 hc23 => ?_)
     ·((conv=>whnf);repeat((first|apply TT mix|apply sE rfl|apply dG (by kernel_rfl)|fail);(conv=>whnf)))
      refine grd2 rfl rfl hc23 (fun hc23 => ?_)
      ((conv=>whnf);repeat((first|apply TT mix|apply sE rfl|apply dG (by kernel_rfl)|fail);(conv=>whnf)))
      refine grd2 rfl rfl hc23 (fun hc23 => ?_)
      ((conv=>whnf);repeat((first|apply TT mix|apply sE rfl|apply dG (by kernel_rfl)|fail);(conv=>whnf)))
      refine grd2 rfl rfl hc23 (fun hc23 => ?_)
      ((conv=>whnf);repeat((first|apply TT mix|apply sE rfl|apply dG (by kernel_rfl)|fail);(conv=>whnf)))
      refine grd2 rfl rfl hc23 (fun hc23 => ?_)
      have e := Option.some.inj hc23; subst e
      ((conv=>whnf);repeat((first|apply TT mix|apply sE rfl|apply dG (by kernel_rfl)|fail);(conv=>whnf)))
      exact hn10 _ (((s8.1.set ((IntKind.wrap .i64 (s8.2.2 - (1 : Int))).toNat) (s8.1.getD (s8.2.2.toNat) 0)).set (s8.2.2.toNat) (s8.1.getD ((IntKind.wrap .i64 (s8.2.2 - (1 : Int))).toNat) 0)), true, (IntKind.wrap .i64 (s8.2.2 + (1 : Int)))) hs10 (weak_gen [0, 1] rfl rfl (sK rfl (rowLe_vals (valsLe.cons (cellsLe_refl rfl) valsLe.nil)) (sK rfl (rowLe_ints (by first | rfl | simp)) storeLe.nil)) (slotsLe.cons (cR rfl rfl) (slotsLe.cons (And.intro rfl (AV.Le.of_eq (congrArg (AV.ms _) (by first | rfl | omega | (simp; omega) | simp)))) (slotsLe.cons (cR rfl rfl) (slotsLe.cons (cR rfl rfl) slotsLe.nil)))))
     ·have e := Option.some.inj hc23; subst e
      ((conv=>whnf);repeat((first|apply TT mix|apply sE rfl|apply dG (by kernel_rfl)|fail);(conv=>whnf)))
      exact hn10 _ (s8.1, s8.2.1, (IntKind.wrap .i64 (s8.2.2 + (1 : Int)))) hs10 (weak_gen [0, 1] rfl rfl (sK rfl (rowLe_vals (valsLe.cons (cellsLe_refl rfl) valsLe.nil)) (sK rfl (rowLe_ints (by first | rfl | simp)) storeLe.nil)) (slotsLe.cons (cR rfl rfl) (slotsLe.cons (And.intro rfl (AV.Le.of_eq (congrArg (AV.ms _) (by first | rfl | omega | (simp; omega) | simp)))) (slotsLe.cons (cR rfl rfl) (slotsLe.cons (cR rfl rfl) slotsLe.nil)))))
   ·have e := Option.some.inj h10; subst e
    have e := done_out hs10; subst e
    have e := Option.some.inj h6_; subst e
    ((conv=>whnf);repeat((first|apply TT mix|apply sE rfl|apply dG (by kernel_rfl)|fail);(conv=>whnf)))
    exact hn6 _ (s8.1, s8.2.1) hs6 (weak_gen [0, 1] rfl rfl (sK rfl (rowLe_vals (valsLe.cons (cellsLe_refl rfl) valsLe.nil)) (sK rfl (rowLe_ints (by first | rfl | simp)) storeLe.nil)) (slotsLe.cons (cR rfl rfl) (slotsLe.cons (And.intro rfl (AV.Le.of_eq (congrArg (AV.ms _) (by first | rfl | omega | (simp; omega) | simp)))) (slotsLe.cons (cR rfl rfl) slotsLe.nil))))
  ·have e := Option.some.inj h6_; subst e
   have e := done_out hs6; subst e
   ((conv=>whnf);repeat((first|apply TT mix|apply sE rfl|apply dG (by kernel_rfl)|fail);(conv=>whnf)))
   exact hn18 _ s4.1 h (weak_gen [1] rfl rfl (sK rfl (rowLe_ints (by first | rfl | simp)) storeLe.nil) (slotsLe.cons (And.intro rfl (AV.Le.of_eq (congrArg (AV.ms _) (by first | rfl | omega | (simp; omega) | simp)))) slotsLe.nil))
 ·clear h h18
  intro s1 hc25
  have e := Option.some.inj hc25; subst e
  ((conv=>whnf);repeat((first|apply TT mix|apply sE rfl|apply dG (by kernel_rfl)|fail);(conv=>whnf)))
  exact And.intro (AV.Le.sl_any) rfl
theorem c_eponymref04_All (p_t : T_api_Norm) (p_l : (List Int)) (r : (List Int)) (h : m_eponymref04_All p_t p_l = some r) : Contract pl 36 [(e_api_Norm p_t), (e_L_i32 p_l)] [] (e_L_i32 r) [] := by
 refine contract_of (.t false .z (.t false .z (.t true .z .z))) Tryz.func36 rfl (by kernel_rfl) ?_
 ((conv=>whnf);repeat((first|apply TT mix|apply sE rfl|apply dG (by kernel_rfl)|fail);(conv=>whnf)))
 refine bnd h (fun x10 h10 h => ?_)
 refine cut_at (fun s1 : (List Int) => mkF 24 [(2, (.mp 0 0 0)), (5, (.ms 1 s1.length))] [some ⟨3, 26, (.vals [(e_api_Norm p_t)]), false, false⟩, some ⟨1, 21, (.ints .i32 s1), false, true⟩]) (fun s1 : (List Int) => m_eponymref04_All_K2 p_t s1 = some r) ?_ ?_
 ·intro Kn10 hn10
  ((conv=>whnf);repeat((first|apply TT mix|apply sE rfl|apply dG (by kernel_rfl)|fail);(conv=>whnf)))
  refine loop_iter (fun s5 : (List Int) × Int => mkF 24 [(1, (e_L_i32 p_l)), (2, (.mp 0 0 0)), (5, (.ms 1 s5.1.length)), (6, (.int .i64 s5.2))] [some ⟨3, 26, (.vals [(e_api_Norm p_t)]), false, false⟩, some ⟨1, 21, (.ints .i32 s5.1), false, true⟩]) h10 (weak_trans (weak_nil 5 1 21 (.ints .i32 []) _ rfl rfl trivial (Nat.zero_le _)) (weak_gen [0, 1] rfl rfl (sK rfl (rowLe_vals (valsLe.cons (cellsLe_refl rfl) valsLe.nil)) (sK rfl (rowLe_ints (by first | rfl | simp)) storeLe.nil)) (sQ rfl rfl))) ?_
  intro k7 s5 st7 Kn7 hn7 h7_ hs7
  ((conv=>whnf);repeat((first|apply TT mix|apply sE rfl|apply dG (by kernel_rfl)|fail);(conv=>whnf)))
  refine br_b rfl h7_ (fun c11 h7_ => ?_) (fun c11 h7_ => ?_)
  ·((conv=>whnf);repeat((first|apply TT mix|apply sE rfl|apply dG (by kernel_rfl)|fail);(conv=>whnf)))
   refine grd2 rfl rfl h7_ (fun h7_ => ?_)
   ((conv=>whnf);repeat((first|apply TT mix|apply sE rfl|apply dG (by kernel_rfl)|fail);(conv=>whnf)))
   refine bnd h7_ (fun y8 hy8 h7_ => ?_)
   refine Or.inl ⟨_, c_eponymref04_One _ _ _ hy8, rfl, ?_⟩
   ((conv=>whnf);repeat((first|apply TT mix|apply sE rfl|apply dG (by kernel_rfl)|fail);(conv=>whnf)))
   obtain ⟨p12, h7_⟩ := grdO h7_
   refine ⟨[], y8.length, (.ints .i32 y8), ⟨rfl, rfl, fun j hj => rfl⟩, trivial, fun j hj => rfl, ?_⟩
   conv => whnf
   refine ⟨by simp [Row.len]; try omega, p12, by omega, ?_⟩
   have e := Option.some.inj h7_; subst e
   ((conv=>whnf);repeat((first|apply TT mix|apply sE rfl|apply dG (by kernel_rfl)|fail);(conv=>whnf)))
   exact hn7 _ ((s5.1 ++ y8), (IntKind.wrap .i64 (s5.2 + (1 : Int)))) hs7 (weak_gen [0, 2] rfl rfl (sK rfl (rowLe_vals (valsLe.cons (cellsLe_refl rfl) valsLe.nil)) (sK rfl (rowLe_ints (by first | rfl | simp)) storeLe.nil)) (slotsLe.cons (cR rfl rfl) (slotsLe.cons (cR rfl rfl) (slotsLe.cons (And.intro rfl (AV.Le.of_eq (congrArg (AV.ms _) (by first | rfl | omega | (simp; omega) | simp)))) (slotsLe.cons (cR rfl rfl) slotsLe.nil)))))
  ·have e := Option.some.inj h7_; subst e
   have e := done_out hs7; subst e
   ((conv=>whnf);repeat((first|apply TT mix|apply sE rfl|apply dG (by kernel_rfl)|fail);(conv=>whnf)))
   exact hn10 _ s5.1 h (weak_gen [0, 1] rfl rfl (sK rfl (rowLe_vals (valsLe.cons (cellsLe_refl rfl) valsLe.nil)) (sK rfl (rowLe_ints (by first | rfl | simp)) storeLe.nil)) (slotsLe.cons (cR rfl rfl) (slotsLe.cons (And.intro rfl (AV.Le.of_eq (congrArg (AV.ms _) (by first | rfl | omega | (simp; omega) | simp)))) slotsLe.nil)))
 ·clear h h10
  intro s1 hc13
  ((conv=>whnf);repeat((first|apply TT mix|apply sE rfl|apply dG (by kernel_rfl)|fail);(conv=>whnf)))
  refine bnd hc13 (fun y3 hy3 hc13 => ?_)
  refine Or.inl ⟨_, c_eponymref04_Order _ _ _ hy3, rfl, ?_⟩
  have e := Option.some.inj hc13; subst e
  ((conv=>whnf);repeat((first|apply TT mix|apply sE rfl|apply dG (by kernel_rfl)|fail);(conv=>whnf)))
  exact And.intro (AV.Le.refl _) rfl
theorem c_eponymref05_Pair (p_t : T_api_Norm) (p_a : Int) (p_b : Int) (r : Int) (h : m_eponymref05_Pair p_t p_a p_b = some r) : Contract pl 56 [(e_api_Norm p_t), (AV.int .i32 p_a), (AV.int .i32 p_b)] [] (AV.int .i32 r) [] := by
 refine contract_of (.t false .z (.t true (.t false .z (.t false (.t false (.t false (.t true .z .z) (.t true (.t false (.t false .z (.t false (.t false (.t false .z (.t false (.t false (.t true .z .z) .z) .z)) .z) .z)) .z) .z)) .z) .z)) (.t false (.t true .z .z) (.t true (.t false .z (.t false (.t false (.t false .z (.t false (.t false (.t true .z .z) .z) .z)) .z) .z)) .z)))) Tryz.func56 rfl (by kernel_rfl) ?_
 ((conv=>whnf);repeat((first|apply TT mix|apply sE rfl|apply dG (by kernel_rfl)|fail);(conv=>whnf)))
 refine bnd h (fun x37 h37 h => ?_)
 refine cut_at (fun s1 : Unit => mkF 106 [(1, (.int .i32 p_a)), (2, (.int .i32 p_b)), (3, (.mp 0 0 0))] [some ⟨3, 26, (.vals [(e_api_Norm p_t)]), false, false⟩]) (fun s1 : Unit => m_eponymref05_Pair_K2 p_t p_a p_b s1 = some r) ?_ ?_
 ·intro Kn37 hn37
  ((conv=>whnf);repeat((first|apply TT mix|apply sE rfl|apply dG (by kernel_rfl)|fail);(conv=>whnf)))
  refine loop_iter (fun s18 : Int => mkF 106 [(1, (.int .i32 p_a)), (2, (.int .i32 p_b)), (3, (.mp 0 0 0)), (7, (.int .i32 s18))] [some ⟨3, 26, (.vals [(e_api_Norm p_t)]), false, false⟩]) h37 (weak_gen [0] rfl rfl (sK rfl (rowLe_vals (valsLe.cons (cellsLe_refl rfl) valsLe.nil)) storeLe.nil) (sQ rfl rfl)) ?_
  intro k20 s18 st20 Kn20 hn20 h20_ hs20
  ((conv=>whnf);repeat((first|apply TT mix|apply sE rfl|apply dG (by kernel_rfl)|fail);(conv=>whnf)))
  refine bnd h20_ (fun x38 h38 h20_ => ?_)
  refine cut_at (fun s21 : Bool => mkF 106 [(1, (.int .i32 p_a)), (2, (.int .i32 p_b)), (3, (.mp 0 0 0)), (7, (.int .i32 s18)), (19, (.bool s21))] [some ⟨3, 26, (.vals [(e_api_Norm p_t)]), false, false⟩]) (fun s21 : Bool => m_eponymref05_Pair_K22 p_a p_b s18 s21 = some st20) ?_ ?_
  ·intro Kn38 hn38
   ((conv=>whnf);repeat((first|apply TT mix|apply sE rfl|apply dG (by kernel_rfl)|fail);(conv=>whnf)))
   refine br_b rfl h38 (fun c39 h38 => ?_) (fun c39 h38 => ?_)
   ·((conv=>whnf);repeat((first|apply TT mix|apply sE rfl|apply dG (by kernel_rfl)|fail);(conv=>whnf)))
    refine br_b rfl h38 (fun c40 h38 => ?_) (fun c40 h38 => ?_)
    ·have e := Option.some.inj h38; subst e
     ((conv=>whnf);repeat((first|apply TT mix|apply sE rfl|apply dG (by kernel_rfl)|fail);(conv=>whnf)))
     exact hn38 _ (decide (s18 ≤ (55203 : Int))) h20_ (weak_gen [0] rfl rfl (sK rfl (rowLe_vals (valsLe.cons (cellsLe_refl rfl) valsLe.nil)) storeLe.nil) (sQ rfl rfl))
    ·have e := Option.some.inj h38; subst e
     ((conv=>whnf);repeat((first|apply TT mix|apply sE rfl|apply dG (by kernel_rfl)|fail);(conv=>whnf)))
     exact hn38 _ false h20_ (weak_gen [0] rfl rfl (sK rfl (rowLe_vals (valsLe.cons (cellsLe_refl rfl) valsLe.nil)) storeLe.nil) (sQ rfl rfl))
   ·have e := Option.some.inj h38; subst e
    ((conv=>whnf);repeat((first|apply TT mix|apply sE rfl|apply dG (by kernel_rfl)|fail);(conv=>whnf)))
    exact hn38 _ false h20_ (weak_gen [0] rfl rfl (sK rfl (rowLe_vals (valsLe.cons (cellsLe_refl rfl) valsLe.nil)) storeLe.nil) (sQ rfl rfl))
  ·clear h20_ h38
   intro s21 hc41
   ((conv=>whnf);repeat((first|apply TT mix|apply sE rfl|apply dG (by kernel_rfl)|fail);(conv=>whnf)))
   refine br_b rfl hc41 (fun c42 hc41 => ?_) (fun c42 hc41 => ?_)
   ·((conv=>whnf);repeat((first|apply TT mix|apply sE rfl|apply dG (by kernel_rfl)|fail);(conv=>whnf)))
    refine bnd hc41 (fun x43 h43 hc41 => ?_)
    refine cut_at (fun s23 : Unit => mkF 106 [(1, (.int .i32 p_a)), (2, (.int .i32 p_b)), (3, (.mp 0 0 0)), (7, (.int .i32 s18))] [some ⟨3, 26, (.vals [(e_api_Norm p_t)]), false, false⟩]) (fun s23 : Unit => some (.next (IntKind.wrap .i32 (s18 + (588 : Int)))) = some st20) ?_ ?_
    ·intro Kn43 hn43
     ((conv=>whnf);repeat((first|apply TT mix|apply sE rfl|apply dG (by kernel_rfl)|fail);(conv=>whnf)))
     refine loop_iter (fun s26 : Int => mkF 106 [(1, (.int .i32 p_a)), (2, (.int .i32 p_b)), (3, (.mp 0 0 0)), (7, (.int .i32 s18)), (8, (.int .i32 s26))] [some ⟨3, 26, (.vals [(e_api_Norm p_t)]), false, false⟩]) h43 (weak_gen [0] rfl rfl (sK rfl (rowLe_vals (valsLe.cons (cellsLe_refl rfl) valsLe.nil)) storeLe.nil) (sQ rfl rfl)) ?_
     intro k28 s26 st28 Kn28 hn28 h28_ hs28
     ((conv=>whnf);repeat((first|apply TT mix|apply sE rfl|apply dG (by kernel_rfl)|fail);(conv=>whnf)))
     refine br_b rfl h28_ (fun c44 h28_ => ?_) (fun c44 h28_ => ?_)
     ·((conv=>whnf);repeat((first|apply TT mix|apply sE rfl|apply dG (by kernel_rfl)|fail);(conv=>whnf)))
      refine bnd h28_ (fun x45 h45 h28_ => ?_)
      refine cut_at (fun s29 : Bool => mkF 106 [(1, (.int .i32 p_a)), (2, (.int .i32 p_b)), (3, (.mp 0 0 0)), (7, (.int .i32 s18)), (8, (.int .i32 s26)), (37, (.bool s29))] [some ⟨3, 26, (.vals [(e_api_Norm p_t)]), false, false⟩]) (fun s29 : Bool => m_eponymref05_Pair_K30 s18 s26 s29 = some st28) ?_ ?_
      ·intro Kn45 hn45
       ((conv=>whnf);repeat((first|apply TT mix|apply sE rfl|apply dG (by kernel_rfl)|fail);(conv=>whnf)))
       refine And.intro (by decide) ?_
       ((conv=>whnf);repeat((first|apply TT mix|apply sE rfl|apply dG (by kernel_rfl)|fail);(conv=>whnf)))
       refine br_b rfl h45 (fun c46 h45 => ?_) (fun c46 h45 => ?_)
       ·have e := Option.some.inj h45; subst e
        ((conv=>whnf);repeat((first|apply TT mix|apply sE rfl|apply dG (by kernel_rfl)|fail);(conv=>whnf)))
        exact hn45 _ (p_b == (IntKind.wrap .i32 ((4449 : Int) + s26))) h28_ (weak_gen [0] rfl rfl (sK rfl (rowLe_vals (valsLe.cons (cellsLe_refl rfl) valsLe.nil)) storeLe.nil) (sQ rfl rfl))
       ·have e := Option.some.inj h45; subst e
        ((conv=>whnf);repeat((first|apply TT mix|apply sE rfl|apply dG (by kernel_rfl)|fail);(conv=>whnf)))
        exact hn45 _ false h28_ (weak_gen [0] rfl rfl (sK rfl (rowLe_vals (valsLe.cons (cellsLe_refl rfl) valsLe.nil)) storeLe.nil) (sQ rfl rfl))
      ·clear h28_ h45
       intro s29 hc47
       ((conv=>whnf);repeat((first|apply TT mix|apply sE rfl|apply dG (by kernel_rfl)|fail);(conv=>whnf)))
       refine br_b rfl hc47 (fun c48 hc47 => ?_) (fun c48 hc47 => ?_)
       ·have e := Option.some.inj hc47; subst e
        have e := done_out hs28; subst e
        have e := Option.some.inj hc41; subst e
        have e := done_out hs20; subst e
        have e := Option.some.inj h; subst e
        ((conv=>whnf);repeat((first|apply TT mix|apply sE rfl|apply dG (by kernel_rfl)|fail);(conv=>whnf)))
        exact And.intro (AV.Le.refl _) rfl
       ·have e := Option.some.inj hc47; subst e
        ((conv=>whnf);repeat((first|apply TT mix|apply sE rfl|apply dG (by kernel_rfl)|fail);(conv=>whnf)))
        exact hn28 _ (IntKind.wrap .i32 (s26 + (1 : Int))) hs28 (weak_gen [0] rfl rfl (sK rfl (rowLe_vals (valsLe.cons (cellsLe_refl rfl) valsLe.nil)) storeLe.nil) (sQ rfl rfl))
     ·have e := Option.some.inj h28_; subst e
      have e := done_out hs28; subst e
      ((conv=>whnf);repeat((first|apply TT mix|apply sE rfl|apply dG (by kernel_rfl)|fail);(conv=>whnf)))
      exact hn43 _ () hc41 (weak_gen [0] rfl rfl (sK rfl (rowLe_vals (valsLe.cons (cellsLe_refl rfl) valsLe.nil)) storeLe.nil) (sQ rfl rfl))
    ·clear hc41 h43
     intro s23 hc49
     have e := Option.some.inj hc49; subst e
     ((conv=>whnf);repeat((first|apply TT mix|apply sE rfl|apply dG (by kernel_rfl)|fail);(conv=>whnf)))
     exact hn20 _ (IntKind.wrap .i32 (s18 + (588 : Int))) hs20 (weak_gen [0] rfl rfl (sK rfl (rowLe_vals (valsLe.cons (cellsLe_refl rfl) valsLe.nil)) storeLe.nil) (sQ rfl rfl))
   ·have e := Option.some.inj hc41; subst e
    have e := done_out hs20; subst e
    ((conv=>whnf);repeat((first|apply TT mix|apply sE rfl|apply dG (by kernel_rfl)|fail);(conv=>whnf)))
    exact hn37 _ () h (weak_gen [0] rfl rfl (sK rfl (rowLe_vals (valsLe.cons (cellsLe_refl rfl) valsLe.nil)) storeLe.nil) (sQ rfl rfl))
 ·clear h h37
  intro s1 hc50
  ((conv=>whnf);repeat((first|apply TT mix|apply sE rfl|apply dG (by kernel_rfl)|fail);(conv=>whnf)))
  refine bnd hc50 (fun x51 h51 hc50 => ?_)
  refine cut_at (fun s3 : Bool => mkF 106 [(1, (.int .i32 p_a)), (2, (.int .i32 p_b)), (3, (.mp 0 0 0)), (61, (.bool s3))] [some ⟨3, 26, (.vals [(e_api_Norm p_t)]), false, false⟩]) (fun s3 : Bool => m_eponymref05_Pair_K4 p_t p_a p_b s3 = some r) ?_ ?_
  ·intro Kn51 hn51
   ((conv=>whnf);repeat((first|apply TT mix|apply sE rfl|apply dG (by kernel_rfl)|fail);(conv=>whnf)))
   refine br_b rfl h51 (fun c52 h51 => ?_) (fun c52 h51 => ?_)
   ·((conv=>whnf);repeat((first|apply TT mix|apply sE rfl|apply dG (by kernel_rfl)|fail);(conv=>whnf)))
    refine br_b rfl h51 (fun c53 h51 => ?_) (fun c53 h51 => ?_)
    ·((conv=>whnf);repeat((first|apply TT mix|apply sE rfl|apply dG (by kernel_rfl)|fail);(conv=>whnf)))
     refine And.intro (by decide) ?_
     ((conv=>whnf);repeat((first|apply TT mix|apply sE rfl|apply dG (by kernel_rfl)|fail);(conv=>whnf)))
     refine br_b rfl h51 (fun c54 h51 => ?_) (fun c54 h51 => ?_)
     ·((conv=>whnf);repeat((first|apply TT mix|apply sE rfl|apply dG (by kernel_rfl)|fail);(conv=>whnf)))
      refine br_b rfl h51 (fun c55 h51 => ?_) (fun c55 h51 => ?_)
      ·have e := Option.some.inj h51; subst e
       ((conv=>whnf);repeat((first|apply TT mix|apply sE rfl|apply dG (by kernel_rfl)|fail);(conv=>whnf)))
       exact hn51 _ (decide (p_b ≤ (4546 : Int))) hc50 (weak_gen [0] rfl rfl (sK rfl (rowLe_vals (valsLe.cons (cellsLe_refl rfl) valsLe.nil)) storeLe.nil) (sQ rfl rfl))
      ·have e := Option.some.inj h51; subst e
       ((conv=>whnf);repeat((first|apply TT mix|apply sE rfl|apply dG (by kernel_rfl)|fail);(conv=>whnf)))
       exact hn51 _ false hc50 (weak_gen [0] rfl rfl (sK rfl (rowLe_vals (valsLe.cons (cellsLe_refl rfl) valsLe.nil)) storeLe.nil) (sQ rfl rfl))
     ·have e := Option.some.inj h51; subst e
      ((conv=>whnf);repeat((first|apply TT mix|apply sE rfl|apply dG (by kernel_rfl)|fail);(conv=>whnf)))
      exact hn51 _ false hc50 (weak_gen [0] rfl rfl (sK rfl (rowLe_vals (valsLe.cons (cellsLe_refl rfl) valsLe.nil)) storeLe.nil) (sQ rfl rfl))
    ·have e := Option.some.inj h51; subst e
     ((conv=>whnf);repeat((first|apply TT mix|apply sE rfl|apply dG (by kernel_rfl)|fail);(conv=>whnf)))
     exact hn51 _ false hc50 (weak_gen [0] rfl rfl (sK rfl (rowLe_vals (valsLe.cons (cellsLe_refl rfl) valsLe.nil)) storeLe.nil) (sQ rfl rfl))
   ·have e := Option.some.inj h51; subst e
    ((conv=>whnf);repeat((first|apply TT mix|apply sE rfl|apply dG (by kernel_rfl)|fail);(conv=>whnf)))
    exact hn51 _ false hc50 (weak_gen [0] rfl rfl (sK rfl (rowLe_vals (valsLe.cons (cellsLe_refl rfl) valsLe.nil)) storeLe.nil) (sQ rfl rfl))
  ·clear hc50 h51
   intro s3 hc56
   ((conv=>whnf);repeat((first|apply TT mix|apply sE rfl|apply dG (by kernel_rfl)|fail);(conv=>whnf)))
   refine br_b rfl hc56 (fun c57 hc56 => ?_) (fun c57 hc56 => ?_)
   ·have e := Option.some.inj hc56; subst e
    ((conv=>whnf);repeat((first|apply TT mix|apply sE rfl|apply dG (by kernel_rfl)|fail);(conv=>whnf)))
    exact And.intro (AV.Le.refl _) rfl
   ·((conv=>whnf);repeat((first|apply TT mix|apply sE rfl|apply dG (by kernel_rfl)|fail);(conv=>whnf)))
    refine bnd hc56 (fun x58 h58 hc56 => ?_)
    refine cut_at (fun s5 : Unit => mkF 106 [] []) (fun s5 : Unit => some (-1 : Int) = some r) ?_ ?_
    ·intro Kn58 hn58
     ((conv=>whnf);repeat((first|apply TT mix|apply sE rfl|apply dG (by kernel_rfl)|fail);(conv=>whnf)))
     refine loop_iter (fun s8 : Int => mkF 106 [(1, (.int .i32 p_a)), (2, (.int .i32 p_b)), (3, (.mp 0 0 0)), (9, (.int .i64 s8))] [some ⟨3, 26, (.vals [(e_api_Norm p_t)]), false, false⟩]) h58 (weak_gen [0] rfl rfl (sK rfl (rowLe_vals (valsLe.cons (cellsLe_refl rfl) valsLe.nil)) storeLe.nil) (sQ rfl rfl)) ?_
     intro k10 s8 st10 Kn10 hn10 h10_ hs10
     ((conv=>whnf);repeat((first|apply TT mix|apply sE rfl|apply dG (by kernel_rfl)|fail);(conv=>whnf)))
     refine br_b rfl h10_ (fun c59 h10_ => ?_) (fun c59 h10_ => ?_)
     ·((conv=>whnf);repeat((first|apply TT mix|apply sE rfl|apply dG (by kernel_rfl)|fail);(conv=>whnf)))
      refine bnd h10_ (fun x60 h60 h10_ => ?_)
      refine cut_at (fun s11 : Bool => mkF 106 [(1, (.int .i32 p_a)), (2, (.int .i32 p_b)), (3, (.mp 0 0 0)), (9, (.int .i64 s8)), (99, (.bool s11))] [some ⟨3, 26, (.vals [(e_api_Norm p_t)]), false, false⟩]) (fun s11 : Bool => m_eponymref05_Pair_K12 p_t s8 s11 = some st10) ?_ ?_
      ·intro Kn60 hn60
       ((conv=>whnf);repeat((first|apply TT mix|apply sE rfl|apply dG (by kernel_rfl)|fail);(conv=>whnf)))
       refine bnd h60 (fun y13 hy13 h60 => ?_)
       refine Or.inl ⟨_, c_eponymref04_Composes _ _ _ hy13, rfl, ?_⟩
       ((conv=>whnf);repeat((first|apply TT mix|apply sE rfl|apply dG (by kernel_rfl)|fail);(conv=>whnf)))
       refine br_b rfl h60 (fun c61 h60 => ?_) (fun c61 h60 => ?_)
       ·((conv=>whnf);repeat((first|apply TT mix|apply sE rfl|apply dG (by kernel_rfl)|fail);(conv=>whnf)))
        refine grd2 rfl rfl h60 (fun h60 => ?_)
        ((conv=>whnf);repeat((first|apply TT mix|apply sE rfl|apply dG (by kernel_rfl)|fail);(conv=>whnf)))
        refine grd2 rfl rfl h60 (fun h60 => ?_)
        ((conv=>whnf);repeat((first|apply TT mix|apply sE rfl|apply dG (by kernel_rfl)|fail);(conv=>whnf)))
        refine br_b rfl h60 (fun c62 h60 => ?_) (fun c62 h60 => ?_)
        ·((conv=>whnf);repeat((first|apply TT mix|apply sE rfl|apply dG (by kernel_rfl)|fail);(conv=>whnf)))
         refine grd2 rfl rfl h60 (fun h60 => ?_)
         ((conv=>whnf);repeat((first|apply TT mix|apply sE rfl|apply dG (by kernel_rfl)|fail);(conv=>whnf)))
         refine grd2 rfl rfl h60 (fun h60 => ?_)
         have e := Option.some.inj h60; subst e
         ((conv=>whnf);repeat((first|apply TT mix|apply sE rfl|apply dG (by kernel_rfl)|fail);(conv=>whnf)))
         exact hn60 _ (((p_t.f_Rows.getD (s8.toNat) d_api_Row).f_To.getD 1 0) == p_b) h10_ (weak_gen [0] rfl rfl (sK rfl (rowLe_vals (valsLe.cons (cellsLe_refl rfl) valsLe.nil)) storeLe.nil) (sQ rfl rfl))
        ·have e := Option.some.inj h60; subst e
         ((conv=>whnf);repeat((first|apply TT mix|apply sE rfl|apply dG (by kernel_rfl)|fail);(conv=>whnf)))
         exact hn60 _ false h10_ (weak_gen [0] rfl rfl (sK rfl (rowLe_vals (valsLe.cons (cellsLe_refl rfl) valsLe.nil)) storeLe.nil) (sQ rfl rfl))
       ·have e := Option.some.inj h60; subst e
        ((conv=>whnf);repeat((first|apply TT mix|apply sE rfl|apply dG (by kernel_rfl)|fail);(conv=>whnf)))
        exact hn60 _ false h10_ (weak_gen [0] rfl rfl (sK rfl (rowLe_vals (valsLe.cons (cellsLe_refl rfl) valsLe.nil)) storeLe.nil) (sQ rfl rfl))
      ·clear h10_ h60
       intro s11 hc63
       ((conv=>whnf);repeat((first|apply TT mix|apply sE rfl|apply dG (by kernel_rfl)|fail);(conv=>whnf)))
       refine br_b rfl hc63 (fun c64 hc63 => ?_) (fun c64 hc63 => ?_)
       ·((conv=>whnf);repeat((first|apply TT mix|apply sE rfl|apply dG (by kernel_rfl)|fail);(conv=>whnf)))
        refine grd2 rfl rfl hc63 (fun hc63 => ?_)
        have e := Option.some.inj hc63; subst e
        have e := done_out hs10; subst e
        have e := Option.some.inj hc56; subst e
        ((conv=>whnf);repeat((first|apply TT mix|apply sE rfl|apply dG (by kernel_rfl)|fail);(conv=>whnf)))
        exact And.intro (AV.Le.refl _) rfl
       ·have e := Option.some.inj hc63; subst e
        ((conv=>whnf);repeat((first|apply TT mix|apply sE rfl|apply dG (by kernel_rfl)|fail);(conv=>whnf)))
        exact hn10 _ (IntKind.wrap .i64 (s8 + (1 : Int))) hs10 (weak_gen [0] rfl rfl (sK rfl (rowLe_vals (valsLe.cons (cellsLe_refl rfl) valsLe.nil)) storeLe.nil) (sQ rfl rfl))
     ·have e := Option.some.inj h10_; subst e
      have e := done_out hs10; subst e
      ((conv=>whnf);repeat((first|apply TT mix|apply sE rfl|apply dG (by kernel_rfl)|fail);(conv=>whnf)))
      exact hn58 _ () hc56 (weak_gen [] rfl rfl storeLe.nil slotsLe.nil)
    ·clear hc56 h58
     intro s5 hc65
     have e := Option.some.inj hc65; subst e
     ((conv=>whnf);repeat((first|apply TT mix|apply sE rfl|apply dG (by kernel_rfl)|fail);(conv=>whnf)))
     exact And.intro (AV.Le.refl _) rfl
theorem c_eponymref05_Put (p_t : T_api_Norm) (p_l : (List Int)) (r : (List Int)) (h : m_eponymref05_Put p_t p_l = some r) : Contract pl 35 [(e_api_Norm p_t), (e_L_i32 p_l)] [] (e_L_i32 r) [] := by
 refine contract_of (.t false .z (.t false .z (.t true (.t false .z (.t false (.t false (.t false .z (.t true (.t false (.t false .z (.t true (.t false (.t false (.t false (.t true .z .z) .z) .z) .z) (.t false .z (.t true (.t false .z (.t false (.t false (.t false (.t true .z .z) .z) .z) .z)) (.t false .z (.t true .z .z)))))) .z) .z)) .z) .z)) .z))) Tryz.func35 rfl (by kernel_rfl) ?_
 ((conv=>whnf);repeat((first|apply TT mix|apply sE rfl|apply dG (by kernel_rfl)|fail);(conv=>whnf)))
 refine bnd h (fun x35 h35 h => ?_)
 refine cut_at (fun s1 : (List Int) => mkF 86 [(5, (.ms 0 s1.length))] [some ⟨1, 21, (.ints .i32 s1), false, true⟩]) (fun s1 : (List Int) => some s1 = some r) ?_ ?_
 ·intro Kn35 hn35
  ((conv=>whnf);repeat((first|apply TT mix|apply sE rfl|apply dG (by kernel_rfl)|fail);(conv=>whnf)))
  refine loop_iter (fun s5 : (List Int) × Int => mkF 86 [(1, (e_L_i32 p_l)), (2, (.mp 0 0 0)), (5, (.ms 1 s5.1.length)), (6, (.int .i64 s5.2))] [some ⟨3, 26, (.vals [(e_api_Norm p_t)]), false, false⟩, some ⟨1, 21, (.ints .i32 s5.1), false, true⟩]) h35 (weak_trans (weak_nil 5 1 21 (.ints .i32 []) _ rfl rfl trivial (Nat.zero_le _)) (weak_gen [0, 1] rfl rfl (sK rfl (rowLe_vals (valsLe.cons (cellsLe_refl rfl) valsLe.nil)) (sK rfl (rowLe_ints (by first | rfl | simp)) storeLe.nil)) (sQ rfl rfl))) ?_
  intro k7 s5 st7 Kn7 hn7 h7_ hs7
  ((conv=>whnf);repeat((first|apply TT mix|apply sE rfl|apply dG (by kernel_rfl)|fail);(conv=>whnf)))
  refine br_b rfl h7_ (fun c36 h7_ => ?_) (fun c36 h7_ => ?_)
  ·((conv=>whnf);repeat((first|apply TT mix|apply sE rfl|apply dG (by kernel_rfl)|fail);(conv=>whnf)))
   refine bnd h7_ (fun x37 h37 h7_ => ?_)
   refine cut_at (fun s8 : (List Int) => mkF 86 [(1, (e_L_i32 p_l)), (2, (.mp 0 0 0)), (5, (.ms 1 s8.length)), (6, (.int .i64 s5.2))] [some ⟨3, 26, (.vals [(e_api_Norm p_t)]), false, false⟩, some ⟨1, 21, (.ints .i32 s8), false, true⟩]) (fun s8 : (List Int) => some (.next (s8, (IntKind.wrap .i64 (s5.2 + (1 : Int))))) = some st7) ?_ ?_
   ·intro Kn37 hn37
    ((conv=>whnf);repeat((first|apply TT mix|apply sE rfl|apply dG (by kernel_rfl)|fail);(conv=>whnf)))
    refine bnd h37 (fun x38 h38 h37 => ?_)
    refine cut_at (fun s10 : Int => mkF 86 [(1, (e_L_i32 p_l)), (2, (.mp 0 0 0)), (5, (.ms 1 s5.1.length)), (6, (.int .i64 s5.2)), (7, (.int .i64 s10))] [some ⟨3, 26, (.vals [(e_api_Norm p_t)]), false, false⟩, some ⟨1, 21, (.ints .i32 s5.1), false, true⟩]) (fun s10 : Int => m_eponymref05_Put_K11 p_t p_l s5 s10 = some x37) ?_ ?_
    ·intro Kn38 hn38
     ((conv=>whnf);repeat((first|apply TT mix|apply sE rfl|apply dG (by kernel_rfl)|fail);(conv=>whnf)))
     refine loop_iter (fun s27 : Int => mkF 86 [(1, (e_L_i32 p_l)), (2, (.mp 0 0 0)), (5, (.ms 1 s5.1.length)), (6, (.int .i64 s5.2)), (7, (.int .i64 s27))] [some ⟨3, 26, (.vals [(e_api_Norm p_t)]), false, false⟩, some ⟨1, 21, (.ints .i32 s5.1), false, true⟩]) h38 (weak_gen [0, 1] rfl rfl (sK rfl (rowLe_vals (valsLe.cons (cellsLe_refl rfl) valsLe.nil)) (sK rfl (by first | exact rowLe_same fun _ _ _ => rfl | (simp; exact rowLe_same fun _ _ _ => rfl)) storeLe.nil)) (slotsLe.cons (cR rfl rfl) (slotsLe.cons (cR rfl rfl) (slotsLe.cons (And.intro rfl (AV.Le.of_eq (congrArg (AV.ms _) (by first | rfl | omega | (simp; omega) | simp)))) (slotsLe.cons (cR rfl rfl) (slotsLe.cons (cR rfl rfl) slotsLe.nil)))))) ?_
     intro k29 s27 st29 Kn29 hn29 h29_ hs29
     ((conv=>whnf);repeat((first|apply TT mix|apply sE rfl|apply dG (by kernel_rfl)|fail);(conv=>whnf)))
     refine bnd h29_ (fun x39 h39 h29_ => ?_)
     refine cut_at (fun s30 : Bool => mkF 86 [(1, (e_L_i32 p_l)), (2, (.mp 0 0 0)), (5, (.ms 1 s5.1.length)), (6, (.int .i64 s5.2)), (7, (.int .i64 s27)), (31, (.bool s30))] [some ⟨3, 26, (.vals [(e_api_Norm p_t)]), false, false⟩, some ⟨1, 21, (.ints .i32 s5.1), false, true⟩]) (fun s30 : Bool => m_eponymref05_Put_K31 s27 s30 = some st29) ?_ ?_
     ·intro Kn39 hn39
      ((conv=>whnf);repeat((first|apply TT mix|apply sE rfl|apply dG (by kernel_rfl)|fail);(conv=>whnf)))
      refine br_b rfl h39 (fun c40 h39 => ?_) (fun c40 h39 => ?_)
      ·((conv=>whnf);repeat((first|apply TT mix|apply sE rfl|apply dG (by kernel_rfl)|fail);(conv=>whnf)))
       refine grd2 rfl rfl h39 (fun h39 => ?_)
       ((conv=>whnf);repeat((first|apply TT mix|apply sE rfl|apply dG (by kernel_rfl)|fail);(conv=>whnf)))
       refine bnd h39 (fun y32 hy32 h39 => ?_)
       refine Or.inl ⟨_, c_eponymref04_Class _ _ _ hy32, rfl, ?_⟩
       have e := Option.some.inj h39; subst e
       ((conv=>whnf);repeat((first|apply TT mix|apply sE rfl|apply dG (by kernel_rfl)|fail);(conv=>whnf)))
       exact hn39 _ (decide (y32 > (0 : Int))) h29_ (weak_gen [0, 1] rfl rfl (sK rfl (rowLe_vals (valsLe.cons (cellsLe_refl rfl) valsLe.nil)) (sK rfl (by first | exact rowLe_same fun _ _ _ => rfl | (simp; exact rowLe_same fun _ _ _ => rfl)) storeLe.nil)) (slotsLe.cons (cR rfl rfl) (slotsLe.cons (cR rfl rfl) (slotsLe.cons (And.intro rfl (AV.Le.of_eq (congrArg (AV.ms _) (by first | rfl | omega | (simp; omega) | simp)))) (slotsLe.cons (cR rfl rfl) (slotsLe.cons (cR rfl rfl) (slotsLe.cons (cR rfl rfl) slotsLe.nil)))))))
      ·have e := Option.some.inj h39; subst e
       ((conv=>whnf);repeat((first|apply TT mix|apply sE rfl|apply dG (by kernel_rfl)|fail);(conv=>whnf)))
       exact hn39 _ false h29_ (weak_gen [0, 1] rfl rfl (sK rfl (rowLe_vals (valsLe.cons (cellsLe_refl rfl) valsLe.nil)) (sK rfl (by first | exact rowLe_same fun _ _ _ => rfl | (simp; exact rowLe_same fun _ _ _ => rfl)) storeLe.nil)) (slotsLe.cons (cR rfl rfl) (slotsLe.cons (cR rfl rfl) (slotsLe.cons (And.intro rfl (AV.Le.of_eq (congrArg (AV.ms _) (by first | rfl | omega | (simp; omega) | simp)))) (slotsLe.cons (cR rfl rfl) (slotsLe.cons (cR rfl rfl) (slotsLe.cons (cR rfl rfl) slotsLe.nil)))))))
     ·clear h29_ h39
      intro s30 hc41
      ((conv=>whnf);repeat((first|apply TT mix|apply sE rfl|apply dG (by kernel_rfl)|fail);(conv=>whnf)))
      refine br_b rfl hc41 (fun c42 hc41 => ?_) (fun c42 hc41 => ?_)
      ·have e := Option.some.inj hc41; subst e
       ((conv=>whnf);repeat((first|apply TT mix|apply sE rfl|apply dG (by kernel_rfl)|fail);(conv=>whnf)))
       exact hn29 _ (IntKind.wrap .i64 (s27 - (1 : Int))) hs29 (weak_gen [0, 1] rfl rfl (sK rfl (rowLe_vals (valsLe.cons (cellsLe_refl rfl) valsLe.nil)) (sK rfl (by first | exact rowLe_same fun _ _ _ => rfl | (simp; exact rowLe_same fun _ _ _ => rfl)) storeLe.nil)) (slotsLe.cons (cR rfl rfl) (slotsLe.cons (cR rfl rfl) (slotsLe.cons (And.intro rfl (AV.Le.of_eq (congrArg (AV.ms _) (by first | rfl | omega | (simp; omega) | simp)))) (slotsLe.cons (cR rfl rfl) (slotsLe.cons (cR rfl rfl) slotsLe.nil))))))
      ·have e := Option.some.inj hc41; subst e
       have e := done_out hs29; subst e
       ((conv=>whnf);repeat((first|apply TT mix|apply sE rfl|apply dG (by kernel_rfl)|fail);(conv=>whnf)))
       exact hn38 _ s27 h37 (weak_gen [0, 1] rfl rfl (sK rfl (rowLe_vals (valsLe.cons (cellsLe_refl rfl) valsLe.nil)) (sK rfl (by first | exact rowLe_same fun _ _ _ => rfl | (simp; exact rowLe_same fun _ _ _ => rfl)) storeLe.nil)) (slotsLe.cons (cR rfl rfl) (slotsLe.cons (cR rfl rfl) (slotsLe.cons (And.intro rfl (AV.Le.of_eq (congrArg (AV.ms _) (by first | rfl | omega | (simp; omega) | simp)))) (slotsLe.cons (cR rfl rfl) (slotsLe.cons (cR rfl rfl) slotsLe.nil))))))
    ·clear h37 h38
     intro s10 hc43
     ((conv=>whnf);repeat((first|apply TT mix|apply sE rfl|apply dG (by kernel_rfl)|fail);(conv=>whnf)))
     refine bnd hc43 (fun x44 h44 hc43 => ?_)
     refine cut_at (fun s12 : Bool => mkF 86 [(1, (e_L_i32 p_l)), (2, (.mp 0 0 0)), (5, (.ms 1 s5.1.length)), (6, (.int .i64 s5.2)), (7, (.int .i64 s10)), (8, (.bool s12))] [some ⟨3, 26, (.vals [(e_api_Norm p_t)]), false, false⟩, some ⟨1, 21, (.ints .i32 s5.1), false, true⟩]) (fun s12 : Bool => m_eponymref05_Put_K13 p_t p_l s5 s10 s12 = some x37) ?_ ?_
     ·intro Kn44 hn44
      ((conv=>whnf);repeat((first|apply TT mix|apply sE rfl|apply dG (by kernel_rfl)|fail);(conv=>whnf)))
      refine loop_iter (fun s18 : Bool × Int => mkF 86 [(1, (e_L_i32 p_l)), (2, (.mp 0 0 0)), (5, (.ms 1 s5.1.length)), (6, (.int .i64 s5.2)), (7, (.int .i64 s10)), (8, (.bool s18.1)), (9, (.int .i64 s18.2))] [some ⟨3, 26, (.vals [(e_api_Norm p_t)]), false, false⟩, some ⟨1, 21, (.ints .i32 s5.1), false, true⟩]) h44 (weak_gen [0, 1] rfl rfl (sK rfl (rowLe_vals (valsLe.cons (cellsLe_refl rfl) valsLe.nil)) (sK rfl (by first | exact rowLe_same fun _ _ _ => rfl | (simp; exact rowLe_same fun _ _ _ => rfl)) storeLe.nil)) (slotsLe.cons (cR rfl rfl) (slotsLe.cons (cR rfl rfl) (slotsLe.cons (And.intro rfl (AV.Le.of_eq (congrArg (AV.ms _) (by first | rfl | omega | (simp; omega) | simp)))) (slotsLe.cons (cR rfl rfl) (slotsLe.cons (cR rfl rfl) (slotsLe.cons (cR rfl rfl) (slotsLe.cons (cR rfl rfl) slotsLe.nil)))))))) ?_
      intro k20 s18 st20 Kn20 hn20 h20_ hs20
      ((conv=>whnf);repeat((first|apply TT mix|apply sE rfl|apply dG (by kernel_rfl)|fail);(conv=>whnf)))
      refine bnd h20_ (fun x45 h45 h20_ => ?_)
      refine cut_at (fun s21 : Bool => mkF 86 [(1, (e_L_i32 p_l)), (2, (.mp 0 0 0)), (5, (.ms 1 s5.1.length)), (6, (.int .i64 s5.2)), (7, (.int .i64 s10)), (8, (.bool s18.1)), (9, (.int .i64 s18.2)), (44, (.bool s21))] [some ⟨3, 26, (.vals [(e_api_Norm p_t)]), false, false⟩, some ⟨1, 21, (.ints .i32 s5.1), false, true⟩]) (fun s21 : Bool => m_eponymref05_Put_K22 p_t p_l s5 s18 s21 = some st20) ?_ ?_
      ·intro Kn45 hn45
       ((conv=>whnf);repeat((first|apply TT mix|apply sE rfl|apply dG (by kernel_rfl)|fail);(conv=>whnf)))
       refine br_b rfl h45 (fun c46 h45 => ?_) (fun c46 h45 => ?_)
       ·have e := Option.some.inj h45; subst e
        ((conv=>whnf);repeat((first|apply TT mix|apply sE rfl|apply dG (by kernel_rfl)|fail);(conv=>whnf)))
        exact hn45 _ (decide (s18.2 < ((s5.1.length : Nat) : Int))) h20_ (weak_gen [0, 1] rfl rfl (sK rfl (rowLe_vals (valsLe.cons (cellsLe_refl rfl) valsLe.nil)) (sK rfl (by first | exact rowLe_same fun _ _ _ => rfl | (simp; exact rowLe_same fun _ _ _ => rfl)) storeLe.nil)) (slotsLe.cons (cR rfl rfl) (slotsLe.cons (cR rfl rfl) (slotsLe.cons (And.intro rfl (AV.Le.of_eq (congrArg (AV.ms _) (by first | rfl | omega | (simp; omega) | simp)))) (slotsLe.cons (cR rfl rfl) (slotsLe.cons (cR rfl rfl) (slotsLe.cons (cR rfl rfl) (slotsLe.cons (cR rfl rfl) (slotsLe.cons (cR rfl rfl) slotsLe.nil)))))))))
       ·have e := Option.some.inj h45; subst e
        ((conv=>whnf);repeat((first|apply TT mix|apply sE rfl|apply dG (by kernel_rfl)|fail);(conv=>whnf)))
        exact hn45 _ false h20_ (weak_gen [0, 1] rfl rfl (sK rfl (rowLe_vals (valsLe.cons (cellsLe_refl rfl) valsLe.nil)) (sK rfl (by first | exact rowLe_same fun _ _ _ => rfl | (simp; exact rowLe_same fun _ _ _ => rfl)) storeLe.nil)) (slotsLe.cons (cR rfl rfl) (slotsLe.cons (cR rfl rfl) (slotsLe.cons (And.intro rfl (AV.Le.of_eq (congrArg (AV.ms _) (by first | rfl | omega | (simp; omega) | simp)))) (slotsLe.cons (cR rfl rfl) (slotsLe.cons (cR rfl rfl) (slotsLe.cons (cR rfl rfl) (slotsLe.cons (cR rfl rfl) (slotsLe.cons (cR rfl rfl) slotsLe.nil)))))))))
      ·clear h20_ h45
       intro s21 hc47
       ((conv=>whnf);repeat((first|apply TT mix|apply sE rfl|apply dG (by kernel_rfl)|fail);(conv=>whnf)))
       refine br_b rfl hc47 (fun c48 hc47 => ?_) (fun c48 hc47 => ?_)
       ·((conv=>whnf);repeat((first|apply TT mix|apply sE rfl|apply dG (by kernel_rfl)|fail);(conv=>whnf)))
        refine grd2 rfl rfl hc47 (fun hc47 => ?_)
        ((conv=>whnf);repeat((first|apply TT mix|apply sE rfl|apply dG (by kernel_rfl)|fail);(conv=>whnf)))
        refine bnd hc47 (fun y23 hy23 hc47 => ?_)
        refine Or.inl ⟨_, c_eponymref04_Class _ _ _ hy23, rfl, ?_⟩
        ((conv=>whnf);repeat((first|apply TT mix|apply sE rfl|apply dG (by kernel_rfl)|fail);(conv=>whnf)))
        refine grd2 rfl rfl hc47 (fun hc47 => ?_)
        ((conv=>whnf);repeat((first|apply TT mix|apply sE rfl|apply dG (by kernel_rfl)|fail);(conv=>whnf)))
        refine bnd hc47 (fun y24 hy24 hc47 => ?_)
        refine Or.inl ⟨_, c_eponymref04_Class _ _ _ hy24, rfl, ?_⟩
        ((conv=>whnf);repeat((first|apply TT mix|apply sE rfl|apply dG (by kernel_rfl)|fail);(conv=>whnf)))
        refine br_b rfl hc47 (fun c49 hc47 => ?_) (fun c49 hc47 => ?_)
        ·have e := Option.some.inj hc47; subst e
         ((conv=>whnf);repeat((first|apply TT mix|apply sE rfl|apply dG (by kernel_rfl)|fail);(conv=>whnf)))
         exact hn20 _ (false, (IntKind.wrap .i64 (s18.2 + (1 : Int)))) hs20 (weak_gen [0, 1] rfl rfl (sK rfl (rowLe_vals (valsLe.cons (cellsLe_refl rfl) valsLe.nil)) (sK rfl (by first | exact rowLe_same fun _ _ _ => rfl | (simp; exact rowLe_same fun _ _ _ => rfl)) storeLe.nil)) (slotsLe.cons (cR rfl rfl) (slotsLe.cons (cR rfl rfl) (slotsLe.cons (And.intro rfl (AV.Le.of_eq (congrArg (AV.ms _) (by first | rfl | omega | (simp; omega) | simp)))) (slotsLe.cons (cR rfl rfl) (slotsLe.cons (cR rfl rfl) (slotsLe.cons (cR rfl rfl) (slotsLe.cons (cR rfl rfl) slotsLe.nil))))))))
        ·have e := Option.some.inj hc47; subst e
         ((conv=>whnf);repeat((first|apply TT mix|apply sE rfl|apply dG (by kernel_rfl)|fail);(conv=>whnf)))
         exact hn20 _ (s18.1, (IntKind.wrap .i64 (s18.2 + (1 : Int)))) hs20 (weak_gen [0, 1] rfl rfl (sK rfl (rowLe_vals (valsLe.cons (cellsLe_refl rfl) valsLe.nil)) (sK rfl (by first | exact rowLe_same fun _ _ _ => rfl | (simp; exact rowLe_same fun _ _ _ => rfl)) storeLe.nil)) (slotsLe.cons (cR rfl rfl) (slotsLe.cons (cR rfl rfl) (slotsLe.cons (And.intro rfl (AV.Le.of_eq (congrArg (AV.ms _) (by first | rfl | omega | (simp; omega) | simp)))) (slotsLe.cons (cR rfl rfl) (slotsLe.cons (cR rfl rfl) (slotsLe.cons (cR rfl rfl) (slotsLe.cons (cR rfl rfl) slotsLe.nil))))))))
       ·have e := Option.some.inj hc47; subst e
        have e := done_out hs20; subst e
        ((conv=>whnf);repeat((first|apply TT mix|apply sE rfl|apply dG (by kernel_rfl)|fail);(conv=>whnf)))
        exact hn44 _ s18.1 hc43 (weak_gen [0, 1] rfl rfl (sK rfl (rowLe_vals (valsLe.cons (cellsLe_refl rfl) valsLe.nil)) (sK rfl (by first | exact rowLe_same fun _ _ _ => rfl | (simp; exact rowLe_same fun _ _ _ => rfl)) storeLe.nil)) (slotsLe.cons (cR rfl rfl) (slotsLe.cons (cR rfl rfl) (slotsLe.cons (And.intro rfl (AV.Le.of_eq (congrArg (AV.ms _) (by first | rfl | omega | (simp; omega) | simp)))) (slotsLe.cons (cR rfl rfl) (slotsLe.cons (cR rfl rfl) (slotsLe.cons (cR rfl rfl) slotsLe.nil)))))))
     ·clear hc43 h44
      intro s12 hc50
      ((conv=>whnf);repeat((first|apply TT mix|apply sE rfl|apply dG (by kernel_rfl)|fail);(conv=>whnf)))
      refine bnd hc50 (fun x51 h51 hc50 => ?_)
      refine cut_at (fun s14 : Int => mkF 86 [(1, (e_L_i32 p_l)), (2, (.mp 0 0 0)), (5, (.ms 1 s5.1.length)), (6, (.int .i64 s5.2)), (7, (.int .i64 s10)), (11, (.int .i32 s14))] [some ⟨3, 26, (.vals [(e_api_Norm p_t)]), false, false⟩, some ⟨1, 21, (.ints .i32 s5.1), false, true⟩]) (fun s14 : Int => m_eponymref05_Put_K15 p_l s5 s10 s14 = some x37) ?_ ?_
      ·intro Kn51 hn51
       ((conv=>whnf);repeat((first|apply TT mix|apply sE rfl|apply dG (by kernel_rfl)|fail);(conv=>whnf)))
       refine br_b rfl h51 (fun c52 h51 => ?_) (fun c52 h51 => ?_)
       ·((conv=>whnf);repeat((first|apply TT mix|apply sE rfl|apply dG (by kernel_rfl)|fail);(conv=>whnf)))
        refine grd2 rfl rfl h51 (fun h51 => ?_)
        ((conv=>whnf);repeat((first|apply TT mix|apply sE rfl|apply dG (by kernel_rfl)|fail);(conv=>whnf)))
        refine grd2 rfl rfl h51 (fun h51 => ?_)
        ((conv=>whnf);repeat((first|apply TT mix|apply sE rfl|apply dG (by kernel_rfl)|fail);(conv=>whnf)))
        refine bnd h51 (fun y16 hy16 h51 => ?_)
        refine Or.inl ⟨_, c_eponymref05_Pair _ _ _ _ hy16, rfl, ?_⟩
        have e := Option.some.inj h51; subst e
        ((conv=>whnf);repeat((first|apply TT mix|apply sE rfl|apply dG (by kernel_rfl)|fail);(conv=>whnf)))
        exact hn51 _ y16 hc50 (weak_gen [0, 1] rfl rfl (sK rfl (rowLe_vals (valsLe.cons (cellsLe_refl rfl) valsLe.nil)) (sK rfl (by first | exact rowLe_same fun _ _ _ => rfl | (simp; exact rowLe_same fun _ _ _ => rfl)) storeLe.nil)) (slotsLe.cons (cR rfl rfl) (slotsLe.cons (cR rfl rfl) (slotsLe.cons (And.intro rfl (AV.Le.of_eq (congrArg (AV.ms _) (by first | rfl | omega | (simp; omega) | simp)))) (slotsLe.cons (cR rfl rfl) (slotsLe.cons (cR rfl rfl) (slotsLe.cons (cR rfl rfl) slotsLe.nil)))))))
       ·have e := Option.some.inj h51; subst e
        ((conv=>whnf);repeat((first|apply TT mix|apply sE rfl|apply dG (by kernel_rfl)|fail);(conv=>whnf)))
        exact hn51 _ (-1 : Int) hc50 (weak_gen [0, 1] rfl rfl (sK rfl (rowLe_vals (valsLe.cons (cellsLe_refl rfl) valsLe.nil)) (sK rfl (by first | exact rowLe_same fun _ _ _ => rfl | (simp; exact rowLe_same fun _ _ _ => rfl)) storeLe.nil)) (slotsLe.cons (cR rfl rfl) (slotsLe.cons (cR rfl rfl) (slotsLe.cons (And.intro rfl (AV.Le.of_eq (congrArg (AV.ms _) (by first | rfl | omega | (simp; omega) | simp)))) (slotsLe.cons (cR rfl rfl) (slotsLe.cons (cR rfl rfl) (slotsLe.cons (cR rfl rfl) slotsLe.nil)))))))
      ·clear hc50 h51
       intro s14 hc53
       ((conv=>whnf);repeat((first|apply TT mix|apply sE rfl|apply dG (by kernel_rfl)|fail);(conv=>whnf)))
       refine br_b rfl hc53 (fun c54 hc53 => ?_) (fun c54 hc53 => ?_)
       ·((conv=>whnf);repeat((first|apply TT mix|apply sE rfl|apply dG (by kernel_rfl)|fail);(conv=>whnf)))
        refine grd2 rfl rfl hc53 (fun hc53 => ?_)
        have e := Option.some.inj hc53; subst e
        ((conv=>whnf);repeat((first|apply TT mix|apply sE rfl|apply dG (by kernel_rfl)|fail);(conv=>whnf)))
        exact hn37 _ (s5.1.set (s10.toNat) s14) h7_ (weak_gen [0, 1] rfl rfl (sK rfl (rowLe_vals (valsLe.cons (cellsLe_refl rfl) valsLe.nil)) (sK rfl (rowLe_ints (by first | rfl | simp)) storeLe.nil)) (slotsLe.cons (cR rfl rfl) (slotsLe.cons (cR rfl rfl) (slotsLe.cons (And.intro rfl (AV.Le.of_eq (congrArg (AV.ms _) (by first | rfl | omega | (simp; omega) | simp)))) (slotsLe.cons (cR rfl rfl) slotsLe.nil)))))
       ·((conv=>whnf);repeat((first|apply TT mix|apply sE rfl|apply dG (by kernel_rfl)|fail);(conv=>whnf)))
        refine grd2 rfl rfl hc53 (fun hc53 => ?_)
        ((conv=>whnf);repeat((first|apply TT mix|apply sE rfl|apply dG (by kernel_rfl)|fail);(conv=>whnf)))
        obtain ⟨p55, hc53⟩ := grdO hc53
        refine ⟨[], 1, (.ints .i32 [(p_l.getD (s5.2.toNat) 0)]), ⟨by simp [Row.len] <;> omega, rfl, _, rfl, by simp [Row.len] <;> omega, fun j hj => .inl rfl⟩, trivial, fun j hj => rfl, ?_⟩
        conv => whnf
        refine ⟨by simp [Row.len]; try omega, p55, by omega, ?_⟩
        have e := Option.some.inj hc53; subst e
        ((conv=>whnf);repeat((first|apply TT mix|apply sE rfl|apply dG (by kernel_rfl)|fail);(conv=>whnf)))
        exact hn37 _ (s5.1 ++ [(p_l.getD (s5.2.toNat) 0)]) h7_ (weak_gen [0, 3] rfl rfl (sK rfl (rowLe_vals (valsLe.cons (cellsLe_refl rfl) valsLe.nil)) (sK rfl (rowLe_ints (by first | rfl | simp)) storeLe.nil)) (slotsLe.cons (cR rfl rfl) (slotsLe.cons (cR rfl rfl) (slotsLe.cons (And.intro rfl (AV.Le.of_eq (congrArg (AV.ms _) (by first | rfl | omega | (simp; omega) | simp)))) (slotsLe.cons (cR rfl rfl) slotsLe.nil)))))
   ·clear h7_ h37
    intro s8 hc56
    have e := Option.some.inj hc56; subst e
    ((conv=>whnf);repeat((first|apply TT mix|apply sE rfl|apply dG (by kernel_rfl)|fail);(conv=>whnf)))
    exact hn7 _ (s8, (IntKind.wrap .i64 (s5.2 + (1 : Int)))) hs7 (weak_gen [0, 1] rfl rfl (sK rfl (rowLe_vals (valsLe.cons (cellsLe_refl rfl) valsLe.nil)) (sK rfl (rowLe_ints (by first | rfl | simp)) storeLe.nil)) (slotsLe.cons (cR rfl rfl) (slotsLe.cons (cR rfl rfl) (slotsLe.cons (And.intro rfl (AV.Le.of_eq (congrArg (AV.ms _) (by first | rfl | omega | (simp; omega) | simp)))) (slotsLe.cons (cR rfl rfl) slotsLe.nil)))))
  ·have e := Option.some.inj h7_; subst e
   have e := done_out hs7; subst e
   ((conv=>whnf);repeat((first|apply TT mix|apply sE rfl|apply dG (by kernel_rfl)|fail);(conv=>whnf)))
   exact hn35 _ s5.1 h (weak_gen [1] rfl rfl (sK rfl (rowLe_ints (by first | rfl | simp)) storeLe.nil) (slotsLe.cons (And.intro rfl (AV.Le.of_eq (congrArg (AV.ms _) (by first | rfl | omega | (simp; omega) | simp)))) slotsLe.nil))
 ·clear h h35
  intro s1 hc57
  have e := Option.some.inj hc57; subst e
  ((conv=>whnf);repeat((first|apply TT mix|apply sE rfl|apply dG (by kernel_rfl)|fail);(conv=>whnf)))
  exact And.intro (AV.Le.refl _) rfl
theorem c_eponymref05_All (p_t : T_api_Norm) (p_l : (List Int)) (r : (List Int)) (h : m_eponymref05_All p_t p_l = some r) : Contract pl 17 [(e_api_Norm p_t), (e_L_i32 p_l)] [] (e_L_i32 r) [] := by
 refine contract_of .z Tryz.func17 rfl (by kernel_rfl) ?_
 ((conv=>whnf);repeat((first|apply TT mix|apply sE rfl|apply dG (by kernel_rfl)|fail);(conv=>whnf)))
 refine bnd h (fun y1 hy1 h => ?_)
 refine Or.inl ⟨_, c_eponymref04_All _ _ _ hy1, rfl, ?_⟩
 ((conv=>whnf);repeat((first|apply TT mix|apply sE rfl|apply dG (by kernel_rfl)|fail);(conv=>whnf)))
 refine bnd h (fun y2 hy2 h => ?_)
 refine Or.inl ⟨_, c_eponymref05_Put _ _ _ hy2, rfl, ?_⟩
 have e := Option.some.inj h; subst e
 ((conv=>whnf);repeat((first|apply TT mix|apply sE rfl|apply dG (by kernel_rfl)|fail);(conv=>whnf)))
 exact And.intro (AV.Le.refl _) rfl
theorem c_eponymref01_Encode (p_l : (List Int)) (r : ByteArray) (h : m_eponymref01_Encode p_l = some r) : Contract pl 16 [(e_L_i32 p_l)] [] (AV.str r) [] := by
 refine contract_of (.t false .z (.t false .z (.t true .z .z))) Tryz.func16 rfl (by kernel_rfl) ?_
 ((conv=>whnf);repeat((first|apply TT mix|apply sE rfl|apply dG (by kernel_rfl)|fail);(conv=>whnf)))
 refine bnd h (fun x9 h9 h => ?_)
 refine cut_at (fun s1 : ByteArray => mkF 19 [(3, (.str s1))] []) (fun s1 : ByteArray => some s1 = some r) ?_ ?_
 ·intro Kn9 hn9
  ((conv=>whnf);repeat((first|apply TT mix|apply sE rfl|apply dG (by kernel_rfl)|fail);(conv=>whnf)))
  refine loop_iter (fun s4 : ByteArray × Int => mkF 19 [(0, (e_L_i32 p_l)), (3, (.str s4.1)), (4, (.int .i64 s4.2))] []) h9 (weak_gen [] rfl rfl storeLe.nil (sQ rfl rfl)) ?_
  intro k6 s4 st6 Kn6 hn6 h6_ hs6
  ((conv=>whnf);repeat((first|apply TT mix|apply sE rfl|apply dG (by kernel_rfl)|fail);(conv=>whnf)))
  refine br_b rfl h6_ (fun c10 h6_ => ?_) (fun c10 h6_ => ?_)
  ·((conv=>whnf);repeat((first|apply TT mix|apply sE rfl|apply dG (by kernel_rfl)|fail);(conv=>whnf)))
   refine grd2 rfl rfl h6_ (fun h6_ => ?_)
   ((conv=>whnf);repeat((first|apply TT mix|apply sE rfl|apply dG (by kernel_rfl)|fail);(conv=>whnf)))
   refine bnd h6_ (fun y7 hy7 h6_ => ?_)
   refine Or.inl ⟨_, c_eponymref01_Form _ _ hy7, rfl, ?_⟩
   ((conv=>whnf);repeat((first|apply TT mix|apply sE rfl|apply dG (by kernel_rfl)|fail);(conv=>whnf)))
   refine grd1 rfl h6_ (fun h6_ => ?_)
   have e := Option.some.inj h6_; subst e
   ((conv=>whnf);repeat((first|apply TT mix|apply sE rfl|apply dG (by kernel_rfl)|fail);(conv=>whnf)))
   exact hn6 _ ((s4.1 ++ y7), (IntKind.wrap .i64 (s4.2 + (1 : Int)))) hs6 (weak_gen [] rfl rfl storeLe.nil (sQ rfl rfl))
  ·have e := Option.some.inj h6_; subst e
   have e := done_out hs6; subst e
   ((conv=>whnf);repeat((first|apply TT mix|apply sE rfl|apply dG (by kernel_rfl)|fail);(conv=>whnf)))
   exact hn9 _ s4.1 h (weak_gen [] rfl rfl storeLe.nil (slotsLe.cons (cR rfl rfl) slotsLe.nil))
 ·clear h h9
  intro s1 hc11
  have e := Option.some.inj hc11; subst e
  ((conv=>whnf);repeat((first|apply TT mix|apply sE rfl|apply dG (by kernel_rfl)|fail);(conv=>whnf)))
  exact And.intro (AV.Le.refl _) rfl
theorem c_eponymref05_Text (p_t : T_api_Norm) (p_s : ByteArray) (r : ByteArray × Int × Int) (h : m_eponymref05_Text p_t p_s = some r) : Contract pl 8 [(e_api_Norm p_t), (AV.str p_s)] [] (AV.tup [(AV.str r.1), (AV.int .i64 r.2.1), (AV.int .i64 r.2.2)]) [] := by
 refine contract_of .z Tryz.func8 rfl (by kernel_rfl) ?_
 ((conv=>whnf);repeat((first|apply TT mix|apply sE rfl|apply dG (by kernel_rfl)|fail);(conv=>whnf)))
 refine bnd h (fun y1 hy1 h => ?_)
 refine Or.inl ⟨_, c_eponymref01_Decode _ _ hy1, rfl, ?_⟩
 ((conv=>whnf);repeat((first|apply TT mix|apply sE rfl|apply dG (by kernel_rfl)|fail);(conv=>whnf)))
 refine br_b rfl h (fun c4 h => ?_) (fun c4 h => ?_)
 ·have e := Option.some.inj h; subst e
  ((conv=>whnf);repeat((first|apply TT mix|apply sE rfl|apply dG (by kernel_rfl)|fail);(conv=>whnf)))
  exact And.intro (AV.Le.refl _) rfl
 ·((conv=>whnf);repeat((first|apply TT mix|apply sE rfl|apply dG (by kernel_rfl)|fail);(conv=>whnf)))
  refine bnd h (fun y2 hy2 h => ?_)
  refine Or.inl ⟨_, c_eponymref05_All _ _ _ hy2, rfl, ?_⟩
  ((conv=>whnf);repeat((first|apply TT mix|apply sE rfl|apply dG (by kernel_rfl)|fail);(conv=>whnf)))
  refine bnd h (fun y3 hy3 h => ?_)
  refine Or.inl ⟨_, c_eponymref01_Encode _ _ hy3, rfl, ?_⟩
  have e := Option.some.inj h; subst e
  ((conv=>whnf);repeat((first|apply TT mix|apply sE rfl|apply dG (by kernel_rfl)|fail);(conv=>whnf)))
  exact And.intro (AV.Le.refl _) rfl
theorem c_eponymlaw01_Named (p_code : Int) (r : Er) (h : m_eponymlaw01_Named p_code = some r) : Contract pl 20 [(AV.int .i64 p_code)] [] (AV.err r) [] := by
 refine contract_of .z Tryz.func20 rfl (by kernel_rfl) ?_
 ((conv=>whnf);repeat((first|apply TT mix|apply sE rfl|apply dG (by kernel_rfl)|fail);(conv=>whnf)))
 refine br_b rfl h (fun c1 h => ?_) (fun c1 h => ?_)
 ·have e := Option.some.inj h; subst e
  ((conv=>whnf);repeat((first|apply TT mix|apply sE rfl|apply dG (by kernel_rfl)|fail);(conv=>whnf)))
  exact And.intro (AV.Le.refl _) rfl
 ·((conv=>whnf);repeat((first|apply TT mix|apply sE rfl|apply dG (by kernel_rfl)|fail);(conv=>whnf)))
  refine br_b rfl h (fun c2 h => ?_) (fun c2 h => ?_)
  ·have e := Option.some.inj h; subst e
   ((conv=>whnf);repeat((first|apply TT mix|apply sE rfl|apply dG (by kernel_rfl)|fail);(conv=>whnf)))
   exact And.intro (AV.Le.refl _) rfl
  ·((conv=>whnf);repeat((first|apply TT mix|apply sE rfl|apply dG (by kernel_rfl)|fail);(conv=>whnf)))
   refine br_b rfl h (fun c3 h => ?_) (fun c3 h => ?_)
   ·have e := Option.some.inj h; subst e
    ((conv=>whnf);repeat((first|apply TT mix|apply sE rfl|apply dG (by kernel_rfl)|fail);(conv=>whnf)))
    exact And.intro (AV.Le.refl _) rfl
   ·((conv=>whnf);repeat((first|apply TT mix|apply sE rfl|apply dG (by kernel_rfl)|fail);(conv=>whnf)))
    refine br_b rfl h (fun c4 h => ?_) (fun c4 h => ?_)
    ·have e := Option.some.inj h; subst e
     ((conv=>whnf);repeat((first|apply TT mix|apply sE rfl|apply dG (by kernel_rfl)|fail);(conv=>whnf)))
     exact And.intro (AV.Le.refl _) rfl
    ·((conv=>whnf);repeat((first|apply TT mix|apply sE rfl|apply dG (by kernel_rfl)|fail);(conv=>whnf)))
     refine br_b rfl h (fun c5 h => ?_) (fun c5 h => ?_)
     ·have e := Option.some.inj h; subst e
      ((conv=>whnf);repeat((first|apply TT mix|apply sE rfl|apply dG (by kernel_rfl)|fail);(conv=>whnf)))
      exact And.intro (AV.Le.refl _) rfl
     ·((conv=>whnf);repeat((first|apply TT mix|apply sE rfl|apply dG (by kernel_rfl)|fail);(conv=>whnf)))
      refine br_b rfl h (fun c6 h => ?_) (fun c6 h => ?_)
      ·have e := Option.some.inj h; subst e
       ((conv=>whnf);repeat((first|apply TT mix|apply sE rfl|apply dG (by kernel_rfl)|fail);(conv=>whnf)))
       exact And.intro (AV.Le.refl _) rfl
      ·((conv=>whnf);repeat((first|apply TT mix|apply sE rfl|apply dG (by kernel_rfl)|fail);(conv=>whnf)))
       refine br_b rfl h (fun c7 h => ?_) (fun c7 h => ?_)
       ·have e := Option.some.inj h; subst e
        ((conv=>whnf);repeat((first|apply TT mix|apply sE rfl|apply dG (by kernel_rfl)|fail);(conv=>whnf)))
        exact And.intro (AV.Le.refl _) rfl
       ·((conv=>whnf);repeat((first|apply TT mix|apply sE rfl|apply dG (by kernel_rfl)|fail);(conv=>whnf)))
        refine br_b rfl h (fun c8 h => ?_) (fun c8 h => ?_)
        ·have e := Option.some.inj h; subst e
         ((conv=>whnf);repeat((first|apply TT mix|apply sE rfl|apply dG (by kernel_rfl)|fail);(conv=>whnf)))
         exact And.intro (AV.Le.refl _) rfl
        ·((conv=>whnf);repeat((first|apply TT mix|apply sE rfl|apply dG (by kernel_rfl)|fail);(conv=>whnf)))
         refine br_b rfl h (fun c9 h => ?_) (fun c9 h => ?_)
         ·have e := Option.some.inj h; subst e
          ((conv=>whnf);repeat((first|apply TT mix|apply sE rfl|apply dG (by kernel_rfl)|fail);(conv=>whnf)))
          exact And.intro (AV.Le.refl _) rfl
         ·((conv=>whnf);repeat((first|apply TT mix|apply sE rfl|apply dG (by kernel_rfl)|fail);(conv=>whnf)))
          refine br_b rfl h (fun c10 h => ?_) (fun c10 h => ?_)
          ·have e := Option.some.inj h; subst e
           ((conv=>whnf);repeat((first|apply TT mix|apply sE rfl|apply dG (by kernel_rfl)|fail);(conv=>whnf)))
           exact And.intro (AV.Le.refl _) rfl
          ·((conv=>whnf);repeat((first|apply TT mix|apply sE rfl|apply dG (by kernel_rfl)|fail);(conv=>whnf)))
           refine br_b rfl h (fun c11 h => ?_) (fun c11 h => ?_)
           ·have e := Option.some.inj h; subst e
            ((conv=>whnf);repeat((first|apply TT mix|apply sE rfl|apply dG (by kernel_rfl)|fail);(conv=>whnf)))
            exact And.intro (AV.Le.refl _) rfl
           ·((conv=>whnf);repeat((first|apply TT mix|apply sE rfl|apply dG (by kernel_rfl)|fail);(conv=>whnf)))
            refine br_b rfl h (fun c12 h => ?_) (fun c12 h => ?_)
            ·have e := Option.some.inj h; subst e
             ((conv=>whnf);repeat((first|apply TT mix|apply sE rfl|apply dG (by kernel_rfl)|fail);(conv=>whnf)))
             exact And.intro (AV.Le.refl _) rfl
            ·((conv=>whnf);repeat((first|apply TT mix|apply sE rfl|apply dG (by kernel_rfl)|fail);(conv=>whnf)))
             refine br_b rfl h (fun c13 h => ?_) (fun c13 h => ?_)
             ·have e := Option.some.inj h; subst e
              ((conv=>whnf);repeat((first|apply TT mix|apply sE rfl|apply dG (by kernel_rfl)|fail);(conv=>whnf)))
              exact And.intro (AV.Le.refl _) rfl
             ·((conv=>whnf);repeat((first|apply TT mix|apply sE rfl|apply dG (by kernel_rfl)|fail);(conv=>whnf)))
              refine br_b rfl h (fun c14 h => ?_) (fun c14 h => ?_)
              ·have e := Option.some.inj h; subst e
               ((conv=>whnf);repeat((first|apply TT mix|apply sE rfl|apply dG (by kernel_rfl)|fail);(conv=>whnf)))
               exact And.intro (AV.Le.refl _) rfl
              ·((conv=>whnf);repeat((first|apply TT mix|apply sE rfl|apply dG (by kernel_rfl)|fail);(conv=>whnf)))
               refine br_b rfl h (fun c15 h => ?_) (fun c15 h => ?_)
               ·have e := Option.some.inj h; subst e
                ((conv=>whnf);repeat((first|apply TT mix|apply sE rfl|apply dG (by kernel_rfl)|fail);(conv=>whnf)))
                exact And.intro (AV.Le.refl _) rfl
               ·((conv=>whnf);repeat((first|apply TT mix|apply sE rfl|apply dG (by kernel_rfl)|fail);(conv=>whnf)))
                refine br_b rfl h (fun c16 h => ?_) (fun c16 h => ?_)
                ·have e := Option.some.inj h; subst e
                 ((conv=>whnf);repeat((first|apply TT mix|apply sE rfl|apply dG (by kernel_rfl)|fail);(conv=>whnf)))
                 exact And.intro (AV.Le.refl _) rfl
                ·((conv=>whnf);repeat((first|apply TT mix|apply sE rfl|apply dG (by kernel_rfl)|fail);(conv=>whnf)))
                 refine br_b rfl h (fun c17 h => ?_) (fun c17 h => ?_)
                 ·have e := Option.some.inj h; subst e
                  ((conv=>whnf);repeat((first|apply TT mix|apply sE rfl|apply dG (by kernel_rfl)|fail);(conv=>whnf)))
                  exact And.intro (AV.Le.refl _) rfl
                 ·((conv=>whnf);repeat((first|apply TT mix|apply sE rfl|apply dG (by kernel_rfl)|fail);(conv=>whnf)))
                  refine br_b rfl h (fun c18 h => ?_) (fun c18 h => ?_)
                  ·have e := Option.some.inj h; subst e
                   ((conv=>whnf);repeat((first|apply TT mix|apply sE rfl|apply dG (by kernel_rfl)|fail);(conv=>whnf)))
                   exact And.intro (AV.Le.refl _) rfl
                  ·have e := Option.some.inj h; subst e
                   ((conv=>whnf);repeat((first|apply TT mix|apply sE rfl|apply dG (by kernel_rfl)|fail);(conv=>whnf)))
                   exact And.intro (AV.Le.err_nil) rfl
theorem c_eponymlaw01_Is (p_e : Er) (p_at : Int) (p_code : Int) (r : Bool) (h : m_eponymlaw01_Is p_e p_at p_code = some r) : Contract pl 9 [(AV.err p_e), (AV.int .i64 p_at), (AV.int .i64 p_code)] [] (AV.bool r) [] := by
 refine contract_of .z Tryz.func9 rfl (by kernel_rfl) ?_
 ((conv=>whnf);repeat((first|apply TT mix|apply sE rfl|apply dG (by kernel_rfl)|fail);(conv=>whnf)))
 refine br_b rfl h (fun c4 h => ?_) (fun c4 h => ?_)
 ·have e := Option.some.inj h; subst e
  ((conv=>whnf);repeat((first|apply TT mix|apply sE rfl|apply dG (by kernel_rfl)|fail);(conv=>whnf)))
  exact And.intro (AV.Le.refl _) rfl
 ·((conv=>whnf);repeat((first|apply TT mix|apply sE rfl|apply dG (by kernel_rfl)|fail);(conv=>whnf)))
  refine br_b rfl h (fun c5 h => ?_) (fun c5 h => ?_)
  ·((conv=>whnf);repeat((first|apply TT mix|apply sE rfl|apply dG (by kernel_rfl)|fail);(conv=>whnf)))
   refine bnd h (fun y1 hy1 h => ?_)
   refine Or.inr (own_intro (own_call [0] (c_errors_As _ _ hy1) rfl (storeLe.cons rfl (objLe.mk (by intro hf; first | exact hf | rfl) (by intro hf; first | exact hf | rfl) (rowLe_vals (valsLe.cons (cellsLe_refl rfl) valsLe.nil))) storeLe.nil) (cellsLe.cons (And.intro rfl (AV.Le.refl _)) (cellsLe.cons (And.intro rfl (AV.Le.refl _)) cellsLe.nil)) rfl) ?_)
   ((conv=>whnf);repeat((first|apply TT mix|apply sE rfl|apply dG (by kernel_rfl)|fail);(conv=>whnf)))
   refine br_b rfl h (fun c6 h => ?_) (fun c6 h => ?_)
   ·((conv=>whnf);repeat((first|apply TT mix|apply sE rfl|apply dG (by kernel_rfl)|fail);(conv=>whnf)))
    refine bnd h (fun y2 hy2 h => ?_)
    refine Or.inl ⟨_, c_eponymlaw01_Named _ _ hy2, rfl, ?_⟩
    ((conv=>whnf);repeat((first|apply TT mix|apply sE rfl|apply dG (by kernel_rfl)|fail);(conv=>whnf)))
    refine bnd h (fun y3 hy3 h => ?_)
    refine Or.inl ⟨_, c_errors_Is _ _ _ hy3, rfl, ?_⟩
    have e := Option.some.inj h; subst e
    ((conv=>whnf);repeat((first|apply TT mix|apply sE rfl|apply dG (by kernel_rfl)|fail);(conv=>whnf)))
    exact And.intro (AV.Le.refl _) rfl
   ·have e := Option.some.inj h; subst e
    ((conv=>whnf);repeat((first|apply TT mix|apply sE rfl|apply dG (by kernel_rfl)|fail);(conv=>whnf)))
    exact And.intro (AV.Le.refl _) rfl
  ·have e := Option.some.inj h; subst e
   ((conv=>whnf);repeat((first|apply TT mix|apply sE rfl|apply dG (by kernel_rfl)|fail);(conv=>whnf)))
   exact And.intro (AV.Le.refl _) rfl
theorem c_eponymlaw05_CompTexts (p_t : T_api_Norm) (p_s : ByteArray) (r : Bool) (h : m_eponymlaw05_CompTexts p_t p_s = some r) : Contract pl 3 [(e_api_Norm p_t), (AV.str p_s)] [] (AV.bool r) [] := by
 refine contract_of (.t false .z (.t false .z (.t false (.t true .z .z) .z))) Tryz.func3 rfl (by kernel_rfl) ?_
 ((conv=>whnf);repeat((first|apply TT mix|apply sE rfl|apply dG (by kernel_rfl)|fail);(conv=>whnf)))
 refine bnd h (fun y1 hy1 h => ?_)
 refine Or.inl ⟨_, c_eponymlaw05_awake  _ hy1, rfl, ?_⟩
 ((conv=>whnf);repeat((first|apply TT mix|apply sE rfl|apply dG (by kernel_rfl)|fail);(conv=>whnf)))
 refine br_b rfl h (fun c9 h => ?_) (fun c9 h => ?_)
 ·have e := Option.some.inj h; subst e
  ((conv=>whnf);repeat((first|apply TT mix|apply sE rfl|apply dG (by kernel_rfl)|fail);(conv=>whnf)))
  exact And.intro (AV.Le.refl _) rfl
 ·((conv=>whnf);repeat((first|apply TT mix|apply sE rfl|apply dG (by kernel_rfl)|fail);(conv=>whnf)))
  refine bnd h (fun x10 h10 h => ?_)
  refine cut_at (fun s2 : Bool => mkF 46 [(1, (.str p_s)), (2, (.mp 0 0 0)), (23, (.bool s2))] [some ⟨3, 26, (.vals [(e_api_Norm p_t)]), false, false⟩]) (fun s2 : Bool => m_eponymlaw05_CompTexts_K3 p_t p_s s2 = some r) ?_ ?_
  ·intro Kn10 hn10
   ((conv=>whnf);repeat((first|apply TT mix|apply sE rfl|apply dG (by kernel_rfl)|fail);(conv=>whnf)))
   refine bnd h10 (fun y7 hy7 h10 => ?_)
   refine Or.inl ⟨_, c_eponymlaw04_Great _ _ hy7, rfl, ?_⟩
   ((conv=>whnf);repeat((first|apply TT mix|apply sE rfl|apply dG (by kernel_rfl)|fail);(conv=>whnf)))
   refine br_b rfl h10 (fun c11 h10 => ?_) (fun c11 h10 => ?_)
   ·have e := Option.some.inj h10; subst e
    ((conv=>whnf);repeat((first|apply TT mix|apply sE rfl|apply dG (by kernel_rfl)|fail);(conv=>whnf)))
    exact hn10 _ true h (weak_gen [0] rfl rfl (sK rfl (rowLe_vals (valsLe.cons (cellsLe_refl rfl) valsLe.nil)) storeLe.nil) (sQ rfl rfl))
   ·((conv=>whnf);repeat((first|apply TT mix|apply sE rfl|apply dG (by kernel_rfl)|fail);(conv=>whnf)))
    refine bnd h10 (fun y8 hy8 h10 => ?_)
    refine Or.inl ⟨_, c_eponymlaw04_Right _ _ hy8, rfl, ?_⟩
    ((conv=>whnf);repeat((first|apply TT mix|apply sE rfl|apply dG (by kernel_rfl)|fail);(conv=>whnf)))
    refine br_b rfl h10 (fun c12 h10 => ?_) (fun c12 h10 => ?_)
    ·have e := Option.some.inj h10; subst e
     ((conv=>whnf);repeat((first|apply TT mix|apply sE rfl|apply dG (by kernel_rfl)|fail);(conv=>whnf)))
     exact hn10 _ true h (weak_gen [0] rfl rfl (sK rfl (rowLe_vals (valsLe.cons (cellsLe_refl rfl) valsLe.nil)) storeLe.nil) (sQ rfl rfl))
    ·have e := Option.some.inj h10; subst e
     ((conv=>whnf);repeat((first|apply TT mix|apply sE rfl|apply dG (by kernel_rfl)|fail);(conv=>whnf)))
     exact hn10 _ (decide (((p_s.size : Nat) : Int) > (40 : Int))) h (weak_gen [0] rfl rfl (sK rfl (rowLe_vals (valsLe.cons (cellsLe_refl rfl) valsLe.nil)) storeLe.nil) (sQ rfl rfl))
  ·clear h h10
   intro s2 hc13
   ((conv=>whnf);repeat((first|apply TT mix|apply sE rfl|apply dG (by kernel_rfl)|fail);(conv=>whnf)))
   refine br_b rfl hc13 (fun c14 hc13 => ?_) (fun c14 hc13 => ?_)
   ·have e := Option.some.inj hc13; subst e
    ((conv=>whnf);repeat((first|apply TT mix|apply sE rfl|apply dG (by kernel_rfl)|fail);(conv=>whnf)))
    exact And.intro (AV.Le.refl _) rfl
   ·((conv=>whnf);repeat((first|apply TT mix|apply sE rfl|apply dG (by kernel_rfl)|fail);(conv=>whnf)))
    refine bnd hc13 (fun y4 hy4 hc13 => ?_)
    refine Or.inl ⟨_, c_comp_Text _ _ _ hy4, rfl, ?_⟩
    ((conv=>whnf);repeat((first|apply TT mix|apply sE rfl|apply dG (by kernel_rfl)|fail);(conv=>whnf)))
    refine bnd hc13 (fun y5 hy5 hc13 => ?_)
    refine Or.inl ⟨_, c_eponymref05_Text _ _ _ hy5, rfl, ?_⟩
    ((conv=>whnf);repeat((first|apply TT mix|apply sE rfl|apply dG (by kernel_rfl)|fail);(conv=>whnf)))
    refine br_b rfl hc13 (fun c15 hc13 => ?_) (fun c15 hc13 => ?_)
    ·((conv=>whnf);repeat((first|apply TT mix|apply sE rfl|apply dG (by kernel_rfl)|fail);(conv=>whnf)))
     refine bnd hc13 (fun y6 hy6 hc13 => ?_)
     refine Or.inl ⟨_, c_eponymlaw01_Is _ _ _ _ hy6, rfl, ?_⟩
     have e := Option.some.inj hc13; subst e
     ((conv=>whnf);repeat((first|apply TT mix|apply sE rfl|apply dG (by kernel_rfl)|fail);(conv=>whnf)))
     exact And.intro (AV.Le.refl _) rfl
    ·have e := Option.some.inj hc13; subst e
     ((conv=>whnf);repeat((first|apply TT mix|apply sE rfl|apply dG (by kernel_rfl)|fail);(conv=>whnf)))
     exact And.intro (AV.Le.refl _) rfl
end Go.Proofs.YtjhgaacecfmadaaGreatDoor
