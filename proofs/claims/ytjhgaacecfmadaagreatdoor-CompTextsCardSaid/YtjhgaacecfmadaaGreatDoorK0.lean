/- Contracts of functions, walked by their models; printed by a program of ours. No condition. -/
import Derived.Test.YtjhgaacecfmadaaGreatDoorE
import Derived.Test.YtjhgaacecfmadaaGreatDoorProg
import Derived.KernelRfl
namespace Go.Proofs.YtjhgaacecfmadaaGreatDoor
open Go Go.SE
set_option linter.unusedVariables false
set_option linter.unusedSimpArgs false
set_option maxRecDepth 10000
set_option maxHeartbeats 2000000
attribute [local irreducible] Contract iter
theorem mix : pl.follows .mixedOrders = true := by kernel_rfl
theorem gOf {α : Type} {c : Prop} [Decidable c] {X : Option α} {r : α} (h : (if c then X else none) = some r) : c := by
 by_cases hc : c
 ·exact hc
 ·rw [if_neg hc] at h; cases h
theorem lits_u8 : ∀ (l : List Int) (j : Nat), j < l.length → (l.map (AV.int .u8)).getD j .unk = .int .u8 (l.getD j 0) := fun l j hj => by simp [List.getD_eq_getElem?_getD, hj]
theorem same_NoEscape : Same pl 77 := ⟨_, rfl, by kernel_rfl, by kernel_rfl, by kernel_rfl, by kernel_rfl⟩
theorem c_decomp_hangul (p_r : Int) (r : Int) (h : m_decomp_hangul p_r = some r) : Contract pl 63 [(AV.int .i32 p_r)] [] (AV.int .i64 r) [] := by
 refine contract_of (.t false .z (.t false (.t false (.t true .z (.t false .z (.t true .z (.t false .z (.t true .z (.t false .z (.t true .z .z))))))) .z) .z)) Tryz.func63 rfl (by kernel_rfl) ?_
 ((conv=>whnf);repeat((first|apply TT mix|apply sE rfl|apply dG (by kernel_rfl)|fail);(conv=>whnf)))
 refine bnd h (fun x9 h9 h => ?_)
 refine cut_at (fun s1 : Bool => mkF 31 [(0, (.int .i32 p_r)), (3, (.bool s1))] []) (fun s1 : Bool => m_decomp_hangul_K2 p_r s1 = some r) ?_ ?_
 ·intro Kn9 hn9
  ((conv=>whnf);repeat((first|apply TT mix|apply sE rfl|apply dG (by kernel_rfl)|fail);(conv=>whnf)))
  refine br_b rfl h9 (fun c10 h9 => ?_) (fun c10 h9 => ?_)
  ·have e := Option.some.inj h9; subst e
   ((conv=>whnf);repeat((first|apply TT mix|apply sE rfl|apply dG (by kernel_rfl)|fail);(conv=>whnf)))
   exact hn9 _ (decide (p_r < (4371 : Int))) h (weak_gen [] rfl rfl storeLe.nil (sQ rfl rfl))
  ·have e := Option.some.inj h9; subst e
   ((conv=>whnf);repeat((first|apply TT mix|apply sE rfl|apply dG (by kernel_rfl)|fail);(conv=>whnf)))
   exact hn9 _ false h (weak_gen [] rfl rfl storeLe.nil (sQ rfl rfl))
 ·clear h h9
  intro s1 hc11
  ((conv=>whnf);repeat((first|apply TT mix|apply sE rfl|apply dG (by kernel_rfl)|fail);(conv=>whnf)))
  refine br_b rfl hc11 (fun c12 hc11 => ?_) (fun c12 hc11 => ?_)
  ·have e := Option.some.inj hc11; subst e
   ((conv=>whnf);repeat((first|apply TT mix|apply sE rfl|apply dG (by kernel_rfl)|fail);(conv=>whnf)))
   exact And.intro (AV.Le.refl _) rfl
  ·((conv=>whnf);repeat((first|apply TT mix|apply sE rfl|apply dG (by kernel_rfl)|fail);(conv=>whnf)))
   refine bnd hc11 (fun x13 h13 hc11 => ?_)
   refine cut_at (fun s3 : Bool => mkF 31 [(0, (.int .i32 p_r)), (10, (.bool s3))] []) (fun s3 : Bool => m_decomp_hangul_K4 p_r s3 = some r) ?_ ?_
   ·intro Kn13 hn13
    ((conv=>whnf);repeat((first|apply TT mix|apply sE rfl|apply dG (by kernel_rfl)|fail);(conv=>whnf)))
    refine br_b rfl h13 (fun c14 h13 => ?_) (fun c14 h13 => ?_)
    ·have e := Option.some.inj h13; subst e
     ((conv=>whnf);repeat((first|apply TT mix|apply sE rfl|apply dG (by kernel_rfl)|fail);(conv=>whnf)))
     exact hn13 _ (decide (p_r < (4470 : Int))) hc11 (weak_gen [] rfl rfl storeLe.nil (sQ rfl rfl))
    ·have e := Option.some.inj h13; subst e
     ((conv=>whnf);repeat((first|apply TT mix|apply sE rfl|apply dG (by kernel_rfl)|fail);(conv=>whnf)))
     exact hn13 _ false hc11 (weak_gen [] rfl rfl storeLe.nil (sQ rfl rfl))
   ·clear hc11 h13
    intro s3 hc15
    ((conv=>whnf);repeat((first|apply TT mix|apply sE rfl|apply dG (by kernel_rfl)|fail);(conv=>whnf)))
    refine br_b rfl hc15 (fun c16 hc15 => ?_) (fun c16 hc15 => ?_)
    ·have e := Option.some.inj hc15; subst e
     ((conv=>whnf);repeat((first|apply TT mix|apply sE rfl|apply dG (by kernel_rfl)|fail);(conv=>whnf)))
     exact And.intro (AV.Le.refl _) rfl
    ·((conv=>whnf);repeat((first|apply TT mix|apply sE rfl|apply dG (by kernel_rfl)|fail);(conv=>whnf)))
     refine bnd hc15 (fun x17 h17 hc15 => ?_)
     refine cut_at (fun s5 : Bool => mkF 31 [(0, (.int .i32 p_r)), (17, (.bool s5))] []) (fun s5 : Bool => m_decomp_hangul_K6 p_r s5 = some r) ?_ ?_
     ·intro Kn17 hn17
      ((conv=>whnf);repeat((first|apply TT mix|apply sE rfl|apply dG (by kernel_rfl)|fail);(conv=>whnf)))
      refine br_b rfl h17 (fun c18 h17 => ?_) (fun c18 h17 => ?_)
      ·have e := Option.some.inj h17; subst e
       ((conv=>whnf);repeat((first|apply TT mix|apply sE rfl|apply dG (by kernel_rfl)|fail);(conv=>whnf)))
       exact hn17 _ (decide (p_r < (4547 : Int))) hc15 (weak_gen [] rfl rfl storeLe.nil (sQ rfl rfl))
      ·have e := Option.some.inj h17; subst e
       ((conv=>whnf);repeat((first|apply TT mix|apply sE rfl|apply dG (by kernel_rfl)|fail);(conv=>whnf)))
       exact hn17 _ false hc15 (weak_gen [] rfl rfl storeLe.nil (sQ rfl rfl))
     ·clear hc15 h17
      intro s5 hc19
      ((conv=>whnf);repeat((first|apply TT mix|apply sE rfl|apply dG (by kernel_rfl)|fail);(conv=>whnf)))
      refine br_b rfl hc19 (fun c20 hc19 => ?_) (fun c20 hc19 => ?_)
      ·have e := Option.some.inj hc19; subst e
       ((conv=>whnf);repeat((first|apply TT mix|apply sE rfl|apply dG (by kernel_rfl)|fail);(conv=>whnf)))
       exact And.intro (AV.Le.refl _) rfl
      ·((conv=>whnf);repeat((first|apply TT mix|apply sE rfl|apply dG (by kernel_rfl)|fail);(conv=>whnf)))
       refine bnd hc19 (fun x21 h21 hc19 => ?_)
       refine cut_at (fun s7 : Bool => mkF 31 [(24, (.bool s7))] []) (fun s7 : Bool => m_decomp_hangul_K8 s7 = some r) ?_ ?_
       ·intro Kn21 hn21
        ((conv=>whnf);repeat((first|apply TT mix|apply sE rfl|apply dG (by kernel_rfl)|fail);(conv=>whnf)))
        refine br_b rfl h21 (fun c22 h21 => ?_) (fun c22 h21 => ?_)
        ·have e := Option.some.inj h21; subst e
         ((conv=>whnf);repeat((first|apply TT mix|apply sE rfl|apply dG (by kernel_rfl)|fail);(conv=>whnf)))
         exact hn21 _ (decide (p_r < (55204 : Int))) hc19 (weak_gen [] rfl rfl storeLe.nil (slotsLe.cons (cR rfl rfl) slotsLe.nil))
        ·have e := Option.some.inj h21; subst e
         ((conv=>whnf);repeat((first|apply TT mix|apply sE rfl|apply dG (by kernel_rfl)|fail);(conv=>whnf)))
         exact hn21 _ false hc19 (weak_gen [] rfl rfl storeLe.nil (slotsLe.cons (cR rfl rfl) slotsLe.nil))
       ·clear hc19 h21
        intro s7 hc23
        ((conv=>whnf);repeat((first|apply TT mix|apply sE rfl|apply dG (by kernel_rfl)|fail);(conv=>whnf)))
        refine br_b rfl hc23 (fun c24 hc23 => ?_) (fun c24 hc23 => ?_)
        ·have e := Option.some.inj hc23; subst e
         ((conv=>whnf);repeat((first|apply TT mix|apply sE rfl|apply dG (by kernel_rfl)|fail);(conv=>whnf)))
         exact And.intro (AV.Le.refl _) rfl
        ·have e := Option.some.inj hc23; subst e
         ((conv=>whnf);repeat((first|apply TT mix|apply sE rfl|apply dG (by kernel_rfl)|fail);(conv=>whnf)))
         exact And.intro (AV.Le.refl _) rfl
theorem c_decomp_find_1 (p_k : Int) (p_a1 : T_api_Norm) (p_a2 : Int) (r : Bool) (h : m_decomp_find_1 p_k p_a1 p_a2 = some r) : Contract pl 75 [(AV.int .i64 p_k), (AV.ip (e_api_Norm p_a1) 0), (AV.ip (AV.int .i32 p_a2) 0)] [] (AV.bool r) [] := by
 refine contract_of .z Tryz.func75 rfl (by kernel_rfl) ?_
 ((conv=>whnf);repeat((first|apply TT mix|apply sE rfl|apply dG (by kernel_rfl)|fail);(conv=>whnf)))
 refine grd2 rfl rfl h (fun h => ?_)
 have e := Option.some.inj h; subst e
 ((conv=>whnf);repeat((first|apply TT mix|apply sE rfl|apply dG (by kernel_rfl)|fail);(conv=>whnf)))
 exact And.intro (AV.Le.refl _) rfl
theorem c_sort_Search_decomp_find_1 (p_n : Int) (p_f : T_api_Norm) (p_a2 : Int) (r : Int) (h : m_sort_Search_decomp_find_1 p_n p_f p_a2 = some r) : Contract pl 74 [(AV.int .i64 p_n), (AV.fn (.func 75) [] [(AV.ip (e_api_Norm p_f) 0), (AV.ip (AV.int .i32 p_a2) 0)])] [] (AV.int .i64 r) [] := by
 refine contract_of (.t false .z (.t false .z (.t true .z .z))) Tryz.func74 rfl (by kernel_rfl) ?_
 ((conv=>whnf);repeat((first|apply TT mix|apply sE rfl|apply dG (by kernel_rfl)|fail);(conv=>whnf)))
 refine bnd h (fun x9 h9 h => ?_)
 refine cut_at (fun s1 : Int => mkF 26 [(5, (.int .i64 s1))] []) (fun s1 : Int => some s1 = some r) ?_ ?_
 ·intro Kn9 hn9
  ((conv=>whnf);repeat((first|apply TT mix|apply sE rfl|apply dG (by kernel_rfl)|fail);(conv=>whnf)))
  refine loop_iter (fun s4 : Int × Int => mkF 26 [(1, (.fn (.func 75) [] [(.ip (e_api_Norm p_f) 0), (.ip (.int .i32 p_a2) 0)])), (5, (.int .i64 s4.1)), (6, (.int .i64 s4.2))] []) h9 (weak_gen [] rfl rfl storeLe.nil (sQ rfl rfl)) ?_
  intro k6 s4 st6 Kn6 hn6 h6_ hs6
  ((conv=>whnf);repeat((first|apply TT mix|apply sE rfl|apply dG (by kernel_rfl)|fail);(conv=>whnf)))
  refine br_b rfl h6_ (fun c10 h6_ => ?_) (fun c10 h6_ => ?_)
  ·((conv=>whnf);repeat((first|apply TT mix|apply sE rfl|apply dG (by kernel_rfl)|fail);(conv=>whnf)))
   refine And.intro (by decide) ?_
   ((conv=>whnf);repeat((first|apply TT mix|apply sE rfl|apply dG (by kernel_rfl)|fail);(conv=>whnf)))
   refine bnd h6_ (fun y7 hy7 h6_ => ?_)
   refine Or.inl ⟨_, c_decomp_find_1 _ _ _ _ hy7, rfl, ?_⟩
   ((conv=>whnf);repeat((first|apply TT mix|apply sE rfl|apply dG (by kernel_rfl)|fail);(conv=>whnf)))
   refine br_b rfl h6_ (fun c11 h6_ => ?_) (fun c11 h6_ => ?_)
   ·have e := Option.some.inj h6_; subst e
    ((conv=>whnf);repeat((first|apply TT mix|apply sE rfl|apply dG (by kernel_rfl)|fail);(conv=>whnf)))
    exact hn6 _ ((IntKind.wrap .i64 ((IntKind.wrap .i64 (Int.fdiv (IntKind.wrap .u64 (IntKind.wrap .i64 (s4.1 + s4.2))) 2)) + (1 : Int))), s4.2) hs6 (weak_gen [] rfl rfl storeLe.nil (sQ rfl rfl))
   ·have e := Option.some.inj h6_; subst e
    ((conv=>whnf);repeat((first|apply TT mix|apply sE rfl|apply dG (by kernel_rfl)|fail);(conv=>whnf)))
    exact hn6 _ (s4.1, (IntKind.wrap .i64 (Int.fdiv (IntKind.wrap .u64 (IntKind.wrap .i64 (s4.1 + s4.2))) 2))) hs6 (weak_gen [] rfl rfl storeLe.nil (sQ rfl rfl))
  ·have e := Option.some.inj h6_; subst e
   have e := done_out hs6; subst e
   ((conv=>whnf);repeat((first|apply TT mix|apply sE rfl|apply dG (by kernel_rfl)|fail);(conv=>whnf)))
   exact hn9 _ s4.1 h (weak_gen [] rfl rfl storeLe.nil (slotsLe.cons (cR rfl rfl) slotsLe.nil))
 ·clear h h9
  intro s1 hc12
  have e := Option.some.inj hc12; subst e
  ((conv=>whnf);repeat((first|apply TT mix|apply sE rfl|apply dG (by kernel_rfl)|fail);(conv=>whnf)))
  exact And.intro (AV.Le.refl _) rfl
theorem c_decomp_find (p_t : T_api_Norm) (p_r : Int) (r : Int) (h : m_decomp_find p_t p_r = some r) : Contract pl 64 [(e_api_Norm p_t), (AV.int .i32 p_r)] [] (AV.int .i64 r) [] := by
 refine contract_of (.t false .z (.t false .z (.t false (.t true .z .z) .z))) Tryz.func64 rfl (by kernel_rfl) ?_
 ((conv=>whnf);repeat((first|apply TT mix|apply sE rfl|apply dG (by kernel_rfl)|fail);(conv=>whnf)))
 refine bnd h (fun y1 hy1 h => ?_)
 refine Or.inl ⟨_, c_sort_Search_decomp_find_1 _ _ _ _ hy1, rfl, ?_⟩
 ((conv=>whnf);repeat((first|apply TT mix|apply sE rfl|apply dG (by kernel_rfl)|fail);(conv=>whnf)))
 refine bnd h (fun x4 h4 h => ?_)
 refine cut_at (fun s2 : Bool => mkF 27 [(5, (.int .i64 y1)), (25, (.bool s2))] []) (fun s2 : Bool => m_decomp_find_K3 y1 s2 = some r) ?_ ?_
 ·intro Kn4 hn4
  ((conv=>whnf);repeat((first|apply TT mix|apply sE rfl|apply dG (by kernel_rfl)|fail);(conv=>whnf)))
  refine br_b rfl h4 (fun c5 h4 => ?_) (fun c5 h4 => ?_)
  ·have e := Option.some.inj h4; subst e
   ((conv=>whnf);repeat((first|apply TT mix|apply sE rfl|apply dG (by kernel_rfl)|fail);(conv=>whnf)))
   exact hn4 _ true h (weak_gen [] rfl rfl storeLe.nil (sQ rfl rfl))
  ·((conv=>whnf);repeat((first|apply TT mix|apply sE rfl|apply dG (by kernel_rfl)|fail);(conv=>whnf)))
   refine grd2 rfl rfl h4 (fun h4 => ?_)
   have e := Option.some.inj h4; subst e
   ((conv=>whnf);repeat((first|apply TT mix|apply sE rfl|apply dG (by kernel_rfl)|fail);(conv=>whnf)))
   exact hn4 _ ((p_t.f_Rows.getD (y1.toNat) d_api_Row).f_From != p_r) h (weak_gen [] rfl rfl storeLe.nil (sQ rfl rfl))
 ·clear h h4
  intro s2 hc6
  ((conv=>whnf);repeat((first|apply TT mix|apply sE rfl|apply dG (by kernel_rfl)|fail);(conv=>whnf)))
  refine br_b rfl hc6 (fun c7 hc6 => ?_) (fun c7 hc6 => ?_)
  ·have e := Option.some.inj hc6; subst e
   ((conv=>whnf);repeat((first|apply TT mix|apply sE rfl|apply dG (by kernel_rfl)|fail);(conv=>whnf)))
   exact And.intro (AV.Le.refl _) rfl
  ·have e := Option.some.inj hc6; subst e
   ((conv=>whnf);repeat((first|apply TT mix|apply sE rfl|apply dG (by kernel_rfl)|fail);(conv=>whnf)))
   exact And.intro (AV.Le.refl _) rfl
theorem c_slices_Reverse_rune_rune_own (p_s : (List Int)) (r : (List Int)) (h : m_slices_Reverse_rune_rune_own p_s = some r) : ContractM 1 pl 65 [(.ms 0 p_s.length)] [some ⟨1, 21, (.ints .i32 p_s), false, true⟩] (.tup []) [some ⟨1, 21, (.ints .i32 r), false, true⟩] := by
 refine contract_own 1 .z rfl Tryz.func65 rfl (by kernel_rfl) ?_
 ((conv=>whnf);repeat((first|apply TT mix|apply sE rfl|apply dG (by kernel_rfl)|fail);(conv=>whnf)))
 refine bnd h (fun x4 hx4 h => ?_)
 refine loop_iter (fun s2 : (List Int) × Int × Int => mkF 28 [(0, (.ms 0 s2.1.length)), (2, (.int .i64 s2.2.1)), (3, (.int .i64 s2.2.2))] [some ⟨1, 21, (.ints .i32 s2.1), false, true⟩]) hx4 (weak_gen [0] rfl rfl (sK rfl (rowLe_ints (by first | rfl | simp)) storeLe.nil) (slotsLe.cons (And.intro rfl (AV.Le.of_eq (congrArg (AV.ms _) (by first | rfl | omega | (simp; omega) | simp)))) (slotsLe.cons (cR rfl rfl) (slotsLe.cons (cR rfl rfl) slotsLe.nil)))) ?_
 intro k4 s2 st4 Kn4 hn4 h4 hs4
 ((conv=>whnf);repeat((first|apply TT mix|apply sE rfl|apply dG (by kernel_rfl)|fail);(conv=>whnf)))
 refine br_b rfl h4 (fun c6 h4 => ?_) (fun c6 h4 => ?_)
 ·((conv=>whnf);repeat((first|apply TT mix|apply sE rfl|apply dG (by kernel_rfl)|fail);(conv=>whnf)))
  refine grd2 rfl rfl h4 (fun h4 => ?_)
  ((conv=>whnf);repeat((first|apply TT mix|apply sE rfl|apply dG (by kernel_rfl)|fail);(conv=>whnf)))
  refine grd2 rfl rfl h4 (fun h4 => ?_)
  ((conv=>whnf);repeat((first|apply TT mix|apply sE rfl|apply dG (by kernel_rfl)|fail);(conv=>whnf)))
  refine grd2 rfl rfl h4 (fun h4 => ?_)
  ((conv=>whnf);repeat((first|apply TT mix|apply sE rfl|apply dG (by kernel_rfl)|fail);(conv=>whnf)))
  refine grd2 rfl rfl h4 (fun h4 => ?_)
  have e := Option.some.inj h4; subst e
  ((conv=>whnf);repeat((first|apply TT mix|apply sE rfl|apply dG (by kernel_rfl)|fail);(conv=>whnf)))
  exact hn4 _ (((s2.1.set (s2.2.1.toNat) (s2.1.getD (s2.2.2.toNat) 0)).set (s2.2.2.toNat) (s2.1.getD (s2.2.1.toNat) 0)), (IntKind.wrap .i64 (s2.2.1 + (1 : Int))), (IntKind.wrap .i64 (s2.2.2 - (1 : Int)))) hs4 (weak_gen [0] rfl rfl (sK rfl (rowLe_ints (by first | rfl | simp)) storeLe.nil) (slotsLe.cons (And.intro rfl (AV.Le.of_eq (congrArg (AV.ms _) (by first | rfl | omega | (simp; omega) | simp)))) (slotsLe.cons (cR rfl rfl) (slotsLe.cons (cR rfl rfl) slotsLe.nil))))
 ·have e := Option.some.inj h4; subst e
  have e := done_out hs4; subst e
  have e := Option.some.inj h; subst e
  ((conv=>whnf);repeat((first|apply TT mix|apply sE rfl|apply dG (by kernel_rfl)|fail);(conv=>whnf)))
  exact Or.inr (Or.inr (weak_gen [0] rfl rfl (sK rfl (rowLe_ints (by first | rfl | simp)) storeLe.nil) (slotsLe.cons (cR rfl rfl) slotsLe.nil)))
theorem c_decomp_One (p_t : T_api_Norm) (p_r : Int) (r : (List Int)) (h : m_decomp_One p_t p_r = some r) : Contract pl 44 [(e_api_Norm p_t), (AV.int .i32 p_r)] [] (e_L_i32 r) [] := by
 refine contract_of (.t false .z (.t false .z (.t false .z (.t true (.t false .z (.t false (.t false (.t false .z (.t false (.t false (.t false .z (.t false (.t true .z .z) .z)) .z) .z)) .z) .z)) .z)))) Tryz.func44 rfl (by kernel_rfl) ?_
 ((conv=>whnf);repeat((first|apply TT mix|apply sE rfl|apply dG (by kernel_rfl)|fail);(conv=>whnf)))
 refine bnd h (fun y1 hy1 h => ?_)
 refine Or.inl ⟨_, c_decomp_hangul _ _ hy1, rfl, ?_⟩
 ((conv=>whnf);repeat((first|apply TT mix|apply sE rfl|apply dG (by kernel_rfl)|fail);(conv=>whnf)))
 refine br_b rfl h (fun c13 h => ?_) (fun c13 h => ?_)
 ·((conv=>whnf);repeat((first|apply TT mix|apply sE rfl|apply dG (by kernel_rfl)|fail);(conv=>whnf)))
  refine And.intro (by decide) ?_
  ((conv=>whnf);repeat((first|apply TT mix|apply sE rfl|apply dG (by kernel_rfl)|fail);(conv=>whnf)))
  refine And.intro (by decide) ?_
  ((conv=>whnf);repeat((first|apply TT mix|apply sE rfl|apply dG (by kernel_rfl)|fail);(conv=>whnf)))
  refine And.intro (by decide) ?_
  ((conv=>whnf);repeat((first|apply TT mix|apply sE rfl|apply dG (by kernel_rfl)|fail);(conv=>whnf)))
  refine And.intro (by decide) ?_
  ((conv=>whnf);repeat((first|apply TT mix|apply sE rfl|apply dG (by kernel_rfl)|fail);(conv=>whnf)))
  refine br_b rfl h (fun c14 h => ?_) (fun c14 h => ?_)
  ·((conv=>whnf);repeat((first|apply TT mix|apply sE rfl|apply dG (by kernel_rfl)|fail);(conv=>whnf)))
   refine And.intro (by decide) ?_
   ((conv=>whnf);repeat((first|apply TT mix|apply sE rfl|apply dG (by kernel_rfl)|fail);(conv=>whnf)))
   refine ⟨[], 1, (.ints .i32 [(IntKind.wrap .i32 (IntKind.wrap .i64 ((4519 : Int) + (Int.tmod (IntKind.wrap .i64 ((IntKind.wrap .i64 p_r) - (44032 : Int))) (28 : Int)))))]), ⟨by simp [Row.len] <;> omega, rfl, _, rfl, by simp [Row.len] <;> omega, fun j hj => .inl rfl⟩, trivial, fun j hj => rfl, ?_⟩
   conv => whnf
   refine ⟨by simp [Row.len]; try omega, by decide, by decide, ?_⟩
   have e := Option.some.inj h; subst e
   ((conv=>whnf);repeat((first|apply TT mix|apply sE rfl|apply dG (by kernel_rfl)|fail);(conv=>whnf)))
   exact And.intro (AV.Le.list (by simp; try omega) (fun j hj => by first | rfl | rw [getD_sub hj] | (rw [getD_take hj]; simp) | simp)) rfl
  ·have e := Option.some.inj h; subst e
   ((conv=>whnf);repeat((first|apply TT mix|apply sE rfl|apply dG (by kernel_rfl)|fail);(conv=>whnf)))
   exact And.intro (AV.Le.list (by simp; try omega) (fun j hj => by first | rfl | rw [getD_sub hj] | (rw [getD_take hj]; simp) | simp)) rfl
 ·((conv=>whnf);repeat((first|apply TT mix|apply sE rfl|apply dG (by kernel_rfl)|fail);(conv=>whnf)))
  refine bnd h (fun x15 h15 h => ?_)
  refine cut_at (fun s2 : Int × (List Int) => mkF 81 [(1, (.int .i32 s2.1)), (7, (.ms 0 s2.2.length))] [some ⟨1, 21, (.ints .i32 s2.2), false, true⟩]) (fun s2 : Int × (List Int) => m_decomp_One_K3 s2 = some r) ?_ ?_
  ·intro Kn15 hn15
   ((conv=>whnf);repeat((first|apply TT mix|apply sE rfl|apply dG (by kernel_rfl)|fail);(conv=>whnf)))
   refine loop_iter (fun s6 : Int × (List Int) × Int => mkF 81 [(1, (.int .i32 s6.1)), (2, (.mp 0 0 0)), (7, (.ms 1 s6.2.1.length)), (8, (.int .i64 s6.2.2))] [some ⟨3, 26, (.vals [(e_api_Norm p_t)]), false, false⟩, some ⟨1, 21, (.ints .i32 s6.2.1), false, true⟩]) h15 (weak_trans (weak_nil 7 1 21 (.ints .i32 []) _ rfl rfl trivial (Nat.zero_le _)) (weak_gen [0, 1] rfl rfl (sK rfl (rowLe_vals (valsLe.cons (cellsLe_refl rfl) valsLe.nil)) (sK rfl (rowLe_ints (by first | rfl | simp)) storeLe.nil)) (sQ rfl rfl))) ?_
   intro k8 s6 st8 Kn8 hn8 h8_ hs8
   ((conv=>whnf);repeat((first|apply TT mix|apply sE rfl|apply dG (by kernel_rfl)|fail);(conv=>whnf)))
   refine br_b rfl h8_ (fun c16 h8_ => ?_) (fun c16 h8_ => ?_)
   ·((conv=>whnf);repeat((first|apply TT mix|apply sE rfl|apply dG (by kernel_rfl)|fail);(conv=>whnf)))
    refine bnd h8_ (fun y9 hy9 h8_ => ?_)
    refine Or.inl ⟨_, c_decomp_find _ _ _ hy9, rfl, ?_⟩
    ((conv=>whnf);repeat((first|apply TT mix|apply sE rfl|apply dG (by kernel_rfl)|fail);(conv=>whnf)))
    refine bnd h8_ (fun x17 h17 h8_ => ?_)
    refine cut_at (fun s10 : Bool => mkF 81 [(1, (.int .i32 s6.1)), (2, (.mp 0 0 0)), (7, (.ms 1 s6.2.1.length)), (8, (.int .i64 s6.2.2)), (9, (.int .i64 y9)), (56, (.bool s10))] [some ⟨3, 26, (.vals [(e_api_Norm p_t)]), false, false⟩, some ⟨1, 21, (.ints .i32 s6.2.1), false, true⟩]) (fun s10 : Bool => m_decomp_One_K11 p_t s6 y9 s10 = some st8) ?_ ?_
    ·intro Kn17 hn17
     ((conv=>whnf);repeat((first|apply TT mix|apply sE rfl|apply dG (by kernel_rfl)|fail);(conv=>whnf)))
     refine br_b rfl h17 (fun c18 h17 => ?_) (fun c18 h17 => ?_)
     ·have e := Option.some.inj h17; subst e
      ((conv=>whnf);repeat((first|apply TT mix|apply sE rfl|apply dG (by kernel_rfl)|fail);(conv=>whnf)))
      exact hn17 _ true h8_ (weak_gen [0, 1] rfl rfl (sK rfl (rowLe_vals (valsLe.cons (cellsLe_refl rfl) valsLe.nil)) (sK rfl (by first | exact rowLe_same fun _ _ _ => rfl | (simp; exact rowLe_same fun _ _ _ => rfl)) storeLe.nil)) (slotsLe.cons (cR rfl rfl) (slotsLe.cons (cR rfl rfl) (slotsLe.cons (And.intro rfl (AV.Le.of_eq (congrArg (AV.ms _) (by first | rfl | omega | (simp; omega) | simp)))) (slotsLe.cons (cR rfl rfl) (slotsLe.cons (cR rfl rfl) (slotsLe.cons (cR rfl rfl) slotsLe.nil)))))))
     ·((conv=>whnf);repeat((first|apply TT mix|apply sE rfl|apply dG (by kernel_rfl)|fail);(conv=>whnf)))
      refine grd2 rfl rfl h17 (fun h17 => ?_)
      have e := Option.some.inj h17; subst e
      ((conv=>whnf);repeat((first|apply TT mix|apply sE rfl|apply dG (by kernel_rfl)|fail);(conv=>whnf)))
      exact hn17 _ ((((p_t.f_Rows.getD (y9.toNat) d_api_Row).f_To.length : Nat) : Int) == (0 : Int)) h8_ (weak_gen [0, 1] rfl rfl (sK rfl (rowLe_vals (valsLe.cons (cellsLe_refl rfl) valsLe.nil)) (sK rfl (by first | exact rowLe_same fun _ _ _ => rfl | (simp; exact rowLe_same fun _ _ _ => rfl)) storeLe.nil)) (slotsLe.cons (cR rfl rfl) (slotsLe.cons (cR rfl rfl) (slotsLe.cons (And.intro rfl (AV.Le.of_eq (congrArg (AV.ms _) (by first | rfl | omega | (simp; omega) | simp)))) (slotsLe.cons (cR rfl rfl) (slotsLe.cons (cR rfl rfl) (slotsLe.cons (cR rfl rfl) slotsLe.nil)))))))
    ·clear h8_ h17
     intro s10 hc19
     ((conv=>whnf);repeat((first|apply TT mix|apply sE rfl|apply dG (by kernel_rfl)|fail);(conv=>whnf)))
     refine br_b rfl hc19 (fun c20 hc19 => ?_) (fun c20 hc19 => ?_)
     ·have e := Option.some.inj hc19; subst e
      have e := done_out hs8; subst e
      ((conv=>whnf);repeat((first|apply TT mix|apply sE rfl|apply dG (by kernel_rfl)|fail);(conv=>whnf)))
      exact hn15 _ (s6.1, s6.2.1) h (weak_gen [1] rfl rfl (sK rfl (rowLe_ints (by first | rfl | simp)) storeLe.nil) (slotsLe.cons (cR rfl rfl) (slotsLe.cons (And.intro rfl (AV.Le.of_eq (congrArg (AV.ms _) (by first | rfl | omega | (simp; omega) | simp)))) slotsLe.nil)))
     ·((conv=>whnf);repeat((first|apply TT mix|apply sE rfl|apply dG (by kernel_rfl)|fail);(conv=>whnf)))
      refine grd2 rfl rfl hc19 (fun hc19 => ?_)
      ((conv=>whnf);repeat((first|apply TT mix|apply sE rfl|apply dG (by kernel_rfl)|fail);(conv=>whnf)))
      refine br_b rfl hc19 (fun c21 hc19 => ?_) (fun c21 hc19 => ?_)
      ·((conv=>whnf);repeat((first|apply TT mix|apply sE rfl|apply dG (by kernel_rfl)|fail);(conv=>whnf)))
       refine grd2 rfl rfl hc19 (fun hc19 => ?_)
       ((conv=>whnf);repeat((first|apply TT mix|apply sE rfl|apply dG (by kernel_rfl)|fail);(conv=>whnf)))
       obtain ⟨p22, hc19⟩ := grdO hc19
       refine ⟨[], 1, (.ints .i32 [((p_t.f_Rows.getD (y9.toNat) d_api_Row).f_To.getD 1 0)]), ⟨by simp [Row.len] <;> omega, rfl, _, rfl, by simp [Row.len] <;> omega, fun j hj => .inl rfl⟩, trivial, fun j hj => rfl, ?_⟩
       conv => whnf
       refine ⟨by simp [Row.len]; try omega, p22, by omega, ?_⟩
       ((conv=>whnf);repeat((first|apply TT mix|apply sE rfl|apply dG (by kernel_rfl)|fail);(conv=>whnf)))
       refine grd2 rfl rfl hc19 (fun hc19 => ?_)
       have e := Option.some.inj hc19; subst e
       ((conv=>whnf);repeat((first|apply TT mix|apply sE rfl|apply dG (by kernel_rfl)|fail);(conv=>whnf)))
       exact hn8 _ (((p_t.f_Rows.getD (y9.toNat) d_api_Row).f_To.getD 0 0), (s6.2.1 ++ [((p_t.f_Rows.getD (y9.toNat) d_api_Row).f_To.getD 1 0)]), (IntKind.wrap .i64 (s6.2.2 + (1 : Int)))) hs8 (weak_gen [0, 3] rfl rfl (sK rfl (rowLe_vals (valsLe.cons (cellsLe_refl rfl) valsLe.nil)) (sK rfl (rowLe_ints (by first | rfl | simp)) storeLe.nil)) (slotsLe.cons (cR rfl rfl) (slotsLe.cons (cR rfl rfl) (slotsLe.cons (And.intro rfl (AV.Le.of_eq (congrArg (AV.ms _) (by first | rfl | omega | (simp; omega) | simp)))) (slotsLe.cons (cR rfl rfl) slotsLe.nil)))))
      ·((conv=>whnf);repeat((first|apply TT mix|apply sE rfl|apply dG (by kernel_rfl)|fail);(conv=>whnf)))
       refine grd2 rfl rfl hc19 (fun hc19 => ?_)
       have e := Option.some.inj hc19; subst e
       ((conv=>whnf);repeat((first|apply TT mix|apply sE rfl|apply dG (by kernel_rfl)|fail);(conv=>whnf)))
       exact hn8 _ (((p_t.f_Rows.getD (y9.toNat) d_api_Row).f_To.getD 0 0), s6.2.1, (IntKind.wrap .i64 (s6.2.2 + (1 : Int)))) hs8 (weak_gen [0, 1] rfl rfl (sK rfl (rowLe_vals (valsLe.cons (cellsLe_refl rfl) valsLe.nil)) (sK rfl (rowLe_ints (by first | rfl | simp)) storeLe.nil)) (slotsLe.cons (cR rfl rfl) (slotsLe.cons (cR rfl rfl) (slotsLe.cons (And.intro rfl (AV.Le.of_eq (congrArg (AV.ms _) (by first | rfl | omega | (simp; omega) | simp)))) (slotsLe.cons (cR rfl rfl) slotsLe.nil)))))
   ·have e := Option.some.inj h8_; subst e
    have e := done_out hs8; subst e
    ((conv=>whnf);repeat((first|apply TT mix|apply sE rfl|apply dG (by kernel_rfl)|fail);(conv=>whnf)))
    exact hn15 _ (s6.1, s6.2.1) h (weak_gen [1] rfl rfl (sK rfl (rowLe_ints (by first | rfl | simp)) storeLe.nil) (slotsLe.cons (cR rfl rfl) (slotsLe.cons (And.intro rfl (AV.Le.of_eq (congrArg (AV.ms _) (by first | rfl | omega | (simp; omega) | simp)))) slotsLe.nil)))
  ·clear h h15
   intro s2 hc23
   ((conv=>whnf);repeat((first|apply TT mix|apply sE rfl|apply dG (by kernel_rfl)|fail);(conv=>whnf)))
   refine bnd hc23 (fun y4 hy4 hc23 => ?_)
   refine Or.inr (own_intro (own_call [0] (c_slices_Reverse_rune_rune_own _ _ hy4) rfl (sK rfl (rowLe_ints (by first | rfl | simp)) storeLe.nil) (cellsLe.cons (And.intro rfl (AV.Le.of_eq (congrArg (AV.ms _) (by first | rfl | omega | (simp; omega) | simp)))) cellsLe.nil) rfl) ?_)
   ((conv=>whnf);repeat((first|apply TT mix|apply sE rfl|apply dG (by kernel_rfl)|fail);(conv=>whnf)))
   obtain ⟨p24, hc23⟩ := grdO hc23
   ((conv=>whnf);repeat((first|apply TT mix|apply sE rfl|apply dG (by kernel_rfl)|fail);(conv=>whnf)))
   obtain ⟨p25, hc23⟩ := grdO hc23
   refine ⟨[], s2.2.length, (.ints .i32 y4), ⟨by simp [Row.len] <;> omega, rfl, _, rfl, by simp [Row.len] <;> omega, fun j hj => .inl rfl⟩, trivial, fun j hj => rfl, ?_⟩
   conv => whnf
   refine ⟨by simp [Row.len]; try omega, p25, by omega, ?_⟩
   have e := Option.some.inj hc23; subst e
   ((conv=>whnf);repeat((first|apply TT mix|apply sE rfl|apply dG (by kernel_rfl)|fail);(conv=>whnf)))
   exact And.intro (AV.Le.list (by simp; try omega) (fun j hj => by first | rfl | rw [getD_sub hj] | (rw [getD_take hj]; simp) | simp)) rfl
theorem c_slices_Clone_rune_rune_own_som (p_s : (List Int)) (r : (List Int)) (h : m_slices_Clone_rune_rune_own_som p_s = some r) : ContractM 0 pl 66 [(.sl (some false) p_s.length fun j => (AV.int .i32 (p_s.getD j 0)))] [] (.ms 0 r.length) [some ⟨1, 21, (.ints .i32 r), false, true⟩] := by
 refine contract_own 0 .z rfl Tryz.func66 rfl (by kernel_rfl) ?_
 ((conv=>whnf);repeat((first|apply TT mix|apply sE rfl|apply dG (by kernel_rfl)|fail);(conv=>whnf)))
 obtain ⟨p1, h⟩ := grdO h
 refine ⟨[], p_s.length, (.ints .i32 p_s), ⟨rfl, rfl, fun j hj => rfl⟩, trivial, fun j hj => rfl, ?_⟩
 conv => whnf
 refine ⟨by simp [Row.len]; try omega, p1, by omega, ?_⟩
 have e := Option.some.inj h; subst e
 ((conv=>whnf);repeat((first|apply TT mix|apply sE rfl|apply dG (by kernel_rfl)|fail);(conv=>whnf)))
 exact Or.inr (Or.inr (weak_gen [1] rfl rfl (storeLe.cons rfl (objLe.mk id (fun _ => rfl) (rowLe_ints (by first | rfl | simp))) storeLe.nil) (slotsLe.cons (And.intro rfl (AV.Le.of_eq (congrArg (AV.ms _) (by first | rfl | omega | (simp; omega) | simp)))) slotsLe.nil)))
theorem c_slices_Clone_rune_rune_own_nil  (r : (List Int)) (h : m_slices_Clone_rune_rune_own_nil  = some r) : ContractM 0 pl 66 [(.sl (some true) 0 fun _ => .unk)] [] (.ms 0 r.length) [some ⟨1, 21, (.ints .i32 r), false, true⟩] := by
 refine contract_own 0 .z rfl Tryz.func66 rfl (by kernel_rfl) ?_
 have e := Option.some.inj h; subst e
 ((conv=>whnf);repeat((first|apply TT mix|apply sE rfl|apply dG (by kernel_rfl)|fail);(conv=>whnf)))
 exact Or.inr (Or.inr (weak_trans (weak_nil 0 1 21 (.ints .i32 []) _ rfl rfl trivial (Nat.zero_le _)) (weak_gen [0] rfl rfl (sK rfl (rowLe_ints (by first | rfl | simp)) storeLe.nil) (slotsLe.cons (cR rfl rfl) slotsLe.nil))))
theorem c_slices_Clone_rune_rune_own (p_s : (List Int)) (r : (List Int)) (h : m_slices_Clone_rune_rune_own p_s = some r) : ContractM 0 pl 66 [(e_L_i32 p_s)] [] (.ms 0 r.length) [some ⟨1, 21, (.ints .i32 r), false, true⟩] := by
 refine contractM_nil (fun hn => ?_) (c_slices_Clone_rune_rune_own_som p_s r h)
 have hp : p_s = [] := List.eq_nil_of_length_eq_zero hn
 subst hp
 have e : r = [] := by simpa [m_slices_Clone_rune_rune_own, m_slices_Clone_rune_rune_own_som] using h.symm
 subst e
 exact c_slices_Clone_rune_rune_own_nil [] rfl
theorem c_ranges_Find_1 (p_k : Int) (p_a1 : (List T_api_Range)) (p_a2 : Int) (r : Bool) (h : m_ranges_Find_1 p_k p_a1 p_a2 = some r) : Contract pl 78 [(AV.int .i64 p_k), (AV.ip (e_L_api_Range p_a1) 0), (AV.ip (AV.int .i32 p_a2) 0)] [] (AV.bool r) [] := by
 refine contract_of .z Tryz.func78 rfl (by kernel_rfl) ?_
 ((conv=>whnf);repeat((first|apply TT mix|apply sE rfl|apply dG (by kernel_rfl)|fail);(conv=>whnf)))
 refine grd2 rfl rfl h (fun h => ?_)
 have e := Option.some.inj h; subst e
 ((conv=>whnf);repeat((first|apply TT mix|apply sE rfl|apply dG (by kernel_rfl)|fail);(conv=>whnf)))
 exact And.intro (AV.Le.refl _) rfl
theorem c_sort_Search_ranges_Find_1 (p_n : Int) (p_f : (List T_api_Range)) (p_a2 : Int) (r : Int) (h : m_sort_Search_ranges_Find_1 p_n p_f p_a2 = some r) : Contract pl 74 [(AV.int .i64 p_n), (AV.fn (.func 78) [] [(AV.ip (e_L_api_Range p_f) 0), (AV.ip (AV.int .i32 p_a2) 0)])] [] (AV.int .i64 r) [] := by
 refine contract_of (.t false .z (.t false .z (.t true .z .z))) Tryz.func74 rfl (by kernel_rfl) ?_
 ((conv=>whnf);repeat((first|apply TT mix|apply sE rfl|apply dG (by kernel_rfl)|fail);(conv=>whnf)))
 refine bnd h (fun x9 h9 h => ?_)
 refine cut_at (fun s1 : Int => mkF 26 [(5, (.int .i64 s1))] []) (fun s1 : Int => some s1 = some r) ?_ ?_
 ·intro Kn9 hn9
  ((conv=>whnf);repeat((first|apply TT mix|apply sE rfl|apply dG (by kernel_rfl)|fail);(conv=>whnf)))
  refine loop_iter (fun s4 : Int × Int => mkF 26 [(1, (.fn (.func 78) [] [(.ip (e_L_api_Range p_f) 0), (.ip (.int .i32 p_a2) 0)])), (5, (.int .i64 s4.1)), (6, (.int .i64 s4.2))] []) h9 (weak_gen [] rfl rfl storeLe.nil (sQ rfl rfl)) ?_
  intro k6 s4 st6 Kn6 hn6 h6_ hs6
  ((conv=>whnf);repeat((first|apply TT mix|apply sE rfl|apply dG (by kernel_rfl)|fail);(conv=>whnf)))
  refine br_b rfl h6_ (fun c10 h6_ => ?_) (fun c10 h6_ => ?_)
  ·((conv=>whnf);repeat((first|apply TT mix|apply sE rfl|apply dG (by kernel_rfl)|fail);(conv=>whnf)))
   refine And.intro (by decide) ?_
   ((conv=>whnf);repeat((first|apply TT mix|apply sE rfl|apply dG (by kernel_rfl)|fail);(conv=>whnf)))
   refine bnd h6_ (fun y7 hy7 h6_ => ?_)
   refine Or.inl ⟨_, c_ranges_Find_1 _ _ _ _ hy7, rfl, ?_⟩
   ((conv=>whnf);repeat((first|apply TT mix|apply sE rfl|apply dG (by kernel_rfl)|fail);(conv=>whnf)))
   refine br_b rfl h6_ (fun c11 h6_ => ?_) (fun c11 h6_ => ?_)
   ·have e := Option.some.inj h6_; subst e
    ((conv=>whnf);repeat((first|apply TT mix|apply sE rfl|apply dG (by kernel_rfl)|fail);(conv=>whnf)))
    exact hn6 _ ((IntKind.wrap .i64 ((IntKind.wrap .i64 (Int.fdiv (IntKind.wrap .u64 (IntKind.wrap .i64 (s4.1 + s4.2))) 2)) + (1 : Int))), s4.2) hs6 (weak_gen [] rfl rfl storeLe.nil (sQ rfl rfl))
   ·have e := Option.some.inj h6_; subst e
    ((conv=>whnf);repeat((first|apply TT mix|apply sE rfl|apply dG (by kernel_rfl)|fail);(conv=>whnf)))
    exact hn6 _ (s4.1, (IntKind.wrap .i64 (Int.fdiv (IntKind.wrap .u64 (IntKind.wrap .i64 (s4.1 + s4.2))) 2))) hs6 (weak_gen [] rfl rfl storeLe.nil (sQ rfl rfl))
  ·have e := Option.some.inj h6_; subst e
   have e := done_out hs6; subst e
   ((conv=>whnf);repeat((first|apply TT mix|apply sE rfl|apply dG (by kernel_rfl)|fail);(conv=>whnf)))
   exact hn9 _ s4.1 h (weak_gen [] rfl rfl storeLe.nil (slotsLe.cons (cR rfl rfl) slotsLe.nil))
 ·clear h h9
  intro s1 hc12
  have e := Option.some.inj hc12; subst e
  ((conv=>whnf);repeat((first|apply TT mix|apply sE rfl|apply dG (by kernel_rfl)|fail);(conv=>whnf)))
  exact And.intro (AV.Le.refl _) rfl
theorem c_ranges_Find (p_l : (List T_api_Range)) (p_r : Int) (r : Int × Bool) (h : m_ranges_Find p_l p_r = some r) : Contract pl 71 [(e_L_api_Range p_l), (AV.int .i32 p_r)] [] (AV.tup [(AV.int .i64 r.1), (AV.bool r.2)]) [] := by
 refine contract_of (.t false .z (.t false .z (.t false (.t true .z .z) .z))) Tryz.func71 rfl (by kernel_rfl) ?_
 ((conv=>whnf);repeat((first|apply TT mix|apply sE rfl|apply dG (by kernel_rfl)|fail);(conv=>whnf)))
 refine bnd h (fun y1 hy1 h => ?_)
 refine Or.inl ⟨_, c_sort_Search_ranges_Find_1 _ _ _ _ hy1, rfl, ?_⟩
 ((conv=>whnf);repeat((first|apply TT mix|apply sE rfl|apply dG (by kernel_rfl)|fail);(conv=>whnf)))
 refine bnd h (fun x4 h4 h => ?_)
 refine cut_at (fun s2 : Bool => mkF 29 [(2, (.mp 0 0 0)), (6, (.int .i64 y1)), (23, (.bool s2))] [some ⟨1, 23, (.vals [(e_L_api_Range p_l)]), false, false⟩]) (fun s2 : Bool => m_ranges_Find_K3 p_l y1 s2 = some r) ?_ ?_
 ·intro Kn4 hn4
  ((conv=>whnf);repeat((first|apply TT mix|apply sE rfl|apply dG (by kernel_rfl)|fail);(conv=>whnf)))
  refine br_b rfl h4 (fun c5 h4 => ?_) (fun c5 h4 => ?_)
  ·have e := Option.some.inj h4; subst e
   ((conv=>whnf);repeat((first|apply TT mix|apply sE rfl|apply dG (by kernel_rfl)|fail);(conv=>whnf)))
   exact hn4 _ true h (weak_gen [0] rfl rfl (sK rfl (rowLe_vals (valsLe.cons (cellsLe.cons (cR rfl rfl) cellsLe.nil) valsLe.nil)) storeLe.nil) (sQ rfl rfl))
  ·((conv=>whnf);repeat((first|apply TT mix|apply sE rfl|apply dG (by kernel_rfl)|fail);(conv=>whnf)))
   refine grd2 rfl rfl h4 (fun h4 => ?_)
   have e := Option.some.inj h4; subst e
   ((conv=>whnf);repeat((first|apply TT mix|apply sE rfl|apply dG (by kernel_rfl)|fail);(conv=>whnf)))
   exact hn4 _ (decide ((p_l.getD (y1.toNat) d_api_Range).f_Lo > p_r)) h (weak_gen [0] rfl rfl (sK rfl (rowLe_vals (valsLe.cons (cellsLe.cons (cR rfl rfl) cellsLe.nil) valsLe.nil)) storeLe.nil) (sQ rfl rfl))
 ·clear h h4
  intro s2 hc6
  ((conv=>whnf);repeat((first|apply TT mix|apply sE rfl|apply dG (by kernel_rfl)|fail);(conv=>whnf)))
  refine br_b rfl hc6 (fun c7 hc6 => ?_) (fun c7 hc6 => ?_)
  ·have e := Option.some.inj hc6; subst e
   ((conv=>whnf);repeat((first|apply TT mix|apply sE rfl|apply dG (by kernel_rfl)|fail);(conv=>whnf)))
   exact And.intro (AV.Le.refl _) rfl
  ·((conv=>whnf);repeat((first|apply TT mix|apply sE rfl|apply dG (by kernel_rfl)|fail);(conv=>whnf)))
   refine grd2 rfl rfl hc6 (fun hc6 => ?_)
   have e := Option.some.inj hc6; subst e
   ((conv=>whnf);repeat((first|apply TT mix|apply sE rfl|apply dG (by kernel_rfl)|fail);(conv=>whnf)))
   exact And.intro (AV.Le.refl _) rfl
theorem c_decomp_Class (p_t : T_api_Norm) (p_r : Int) (r : Int) (h : m_decomp_Class p_t p_r = some r) : Contract pl 61 [(e_api_Norm p_t), (AV.int .i32 p_r)] [] (AV.int .i64 r) [] := by
 refine contract_of .z Tryz.func61 rfl (by kernel_rfl) ?_
 ((conv=>whnf);repeat((first|apply TT mix|apply sE rfl|apply dG (by kernel_rfl)|fail);(conv=>whnf)))
 refine bnd h (fun y1 hy1 h => ?_)
 refine Or.inl ⟨_, c_ranges_Find _ _ _ hy1, rfl, ?_⟩
 have e := Option.some.inj h; subst e
 ((conv=>whnf);repeat((first|apply TT mix|apply sE rfl|apply dG (by kernel_rfl)|fail);(conv=>whnf)))
 exact And.intro (AV.Le.refl _) rfl
theorem c_decomp_Order_1 (p_a : Int) (p_b : Int) (p_a2 : T_api_Norm) (r : Int) (h : m_decomp_Order_1 p_a p_b p_a2 = some r) : Contract pl 68 [(AV.int .i32 p_a), (AV.int .i32 p_b), (AV.ip (e_api_Norm p_a2) 0)] [] (AV.int .i64 r) [] := by
 refine contract_of .z Tryz.func68 rfl (by kernel_rfl) ?_
 ((conv=>whnf);repeat((first|apply TT mix|apply sE rfl|apply dG (by kernel_rfl)|fail);(conv=>whnf)))
 refine bnd h (fun y1 hy1 h => ?_)
 refine Or.inl ⟨_, c_decomp_Class _ _ _ hy1, rfl, ?_⟩
 ((conv=>whnf);repeat((first|apply TT mix|apply sE rfl|apply dG (by kernel_rfl)|fail);(conv=>whnf)))
 refine bnd h (fun y2 hy2 h => ?_)
 refine Or.inl ⟨_, c_decomp_Class _ _ _ hy2, rfl, ?_⟩
 have e := Option.some.inj h; subst e
 ((conv=>whnf);repeat((first|apply TT mix|apply sE rfl|apply dG (by kernel_rfl)|fail);(conv=>whnf)))
 exact And.intro (AV.Le.refl _) rfl
theorem c_slices_insertionSortCmpFunc_rune_own (p_data : (List Int)) (p_data_o : Nat) (p_data_n : Nat) (p_a : Int) (p_b : Int) (p_cmp_0 : T_api_Norm) (r : (List Int)) (h : m_slices_insertionSortCmpFunc_rune_own p_data p_data_o p_data_n p_a p_b p_cmp_0 = some r) : ContractM 2 pl 82 [(.mso 0 p_data_o p_data_n), (.int .i64 p_a), (.int .i64 p_b), (.fn (.func 68) [] [(.mp 1 0 0)])] [some ⟨1, 21, (.ints .i32 p_data), false, true⟩, some ⟨3, 26, (.vals [(e_api_Norm p_cmp_0)]), false, false⟩] (.tup []) [some ⟨1, 21, (.ints .i32 r), false, true⟩, some ⟨3, 26, (.vals [(e_api_Norm p_cmp_0)]), false, false⟩] := by
 refine contract_own 2 (.t false .z (.t false (.t false (.t false .z (.t true (.t false (.t false .z (.t false (.t false (.t false (.t true .z .z) .z) .z) .z)) .z) .z)) .z) .z)) rfl Tryz.func82 rfl (by kernel_rfl) ?_
 ((conv=>whnf);repeat((first|apply TT mix|apply sE rfl|apply dG (by kernel_rfl)|fail);(conv=>whnf)))
 refine bnd h (fun x4 hx4 h => ?_)
 refine loop_iter (fun s2 : (List Int) × Int => mkF 53 [(0, (.mso 0 p_data_o p_data_n)), (1, (.int .i64 p_a)), (2, (.int .i64 p_b)), (3, (.fn (.func 68) [] [(.mp 1 0 0)])), (8, (.int .i64 s2.2))] [some ⟨1, 21, (.ints .i32 s2.1), false, true⟩, some ⟨3, 26, (.vals [(e_api_Norm p_cmp_0)]), false, false⟩]) hx4 (weak_gen [0, 1] rfl rfl (sK rfl (rowLe_ints (by first | rfl | simp)) (sK rfl (rowLe_vals (valsLe.cons (cellsLe_refl rfl) valsLe.nil)) storeLe.nil)) (sQ rfl rfl)) ?_
 intro k4 s2 st4 Kn4 hn4 h4 hs4
 ((conv=>whnf);repeat((first|apply TT mix|apply sE rfl|apply dG (by kernel_rfl)|fail);(conv=>whnf)))
 refine br_b rfl h4 (fun c16 h4 => ?_) (fun c16 h4 => ?_)
 ·((conv=>whnf);repeat((first|apply TT mix|apply sE rfl|apply dG (by kernel_rfl)|fail);(conv=>whnf)))
  refine bnd h4 (fun x17 h17 h4 => ?_)
  refine cut_at (fun s5 : (List Int) => mkF 53 [(0, (.mso 0 p_data_o p_data_n)), (1, (.int .i64 p_a)), (2, (.int .i64 p_b)), (3, (.fn (.func 68) [] [(.mp 1 0 0)])), (8, (.int .i64 s2.2))] [some ⟨1, 21, (.ints .i32 s5), false, true⟩, some ⟨3, 26, (.vals [(e_api_Norm p_cmp_0)]), false, false⟩]) (fun s5 : (List Int) => some (.next (s5, (IntKind.wrap .i64 (s2.2 + (1 : Int))))) = some st4) ?_ ?_
  ·intro Kn17 hn17
   ((conv=>whnf);repeat((first|apply TT mix|apply sE rfl|apply dG (by kernel_rfl)|fail);(conv=>whnf)))
   refine loop_iter (fun s8 : (List Int) × Int => mkF 53 [(0, (.mso 0 p_data_o p_data_n)), (1, (.int .i64 p_a)), (2, (.int .i64 p_b)), (3, (.fn (.func 68) [] [(.mp 1 0 0)])), (8, (.int .i64 s2.2)), (9, (.int .i64 s8.2))] [some ⟨1, 21, (.ints .i32 s8.1), false, true⟩, some ⟨3, 26, (.vals [(e_api_Norm p_cmp_0)]), false, false⟩]) h17 (weak_gen [0, 1] rfl rfl (sK rfl (rowLe_ints (by first | rfl | simp)) (sK rfl (rowLe_vals (valsLe.cons (cellsLe_refl rfl) valsLe.nil)) storeLe.nil)) (sQ rfl rfl)) ?_
   intro k10 s8 st10 Kn10 hn10 h10_ hs10
   ((conv=>whnf);repeat((first|apply TT mix|apply sE rfl|apply dG (by kernel_rfl)|fail);(conv=>whnf)))
   refine bnd h10_ (fun x18 h18 h10_ => ?_)
   refine cut_at (fun s11 : Bool => mkF 53 [(0, (.mso 0 p_data_o p_data_n)), (1, (.int .i64 p_a)), (2, (.int .i64 p_b)), (3, (.fn (.func 68) [] [(.mp 1 0 0)])), (8, (.int .i64 s2.2)), (9, (.int .i64 s8.2)), (34, (.bool s11))] [some ⟨1, 21, (.ints .i32 s8.1), false, true⟩, some ⟨3, 26, (.vals [(e_api_Norm p_cmp_0)]), false, false⟩]) (fun s11 : Bool => m_slices_insertionSortCmpFunc_rune_own_K12 p_data_o p_data_n s8 s11 = some st10) ?_ ?_
   ·intro Kn18 hn18
    ((conv=>whnf);repeat((first|apply TT mix|apply sE rfl|apply dG (by kernel_rfl)|fail);(conv=>whnf)))
    refine br_b rfl h18 (fun c19 h18 => ?_) (fun c19 h18 => ?_)
    ·((conv=>whnf);repeat((first|apply TT mix|apply sE rfl|apply dG (by kernel_rfl)|fail);(conv=>whnf)))
     refine grd2 rfl rfl h18 (fun h18 => ?_)
     ((conv=>whnf);repeat((first|apply TT mix|apply sE rfl|apply dG (by kernel_rfl)|fail);(conv=>whnf)))
     refine grd2 rfl rfl h18 (fun h18 => ?_)
     ((conv=>whnf);repeat((first|apply TT mix|apply sE rfl|apply dG (by kernel_rfl)|fail);(conv=>whnf)))
     refine bnd h18 (fun y13 hy13 h18 => ?_)
     refine Or.inl ⟨_, c_decomp_Order_1 _ _ _ _ hy13, rfl, ?_⟩
     have e := Option.some.inj h18; subst e
     ((conv=>whnf);repeat((first|apply TT mix|apply sE rfl|apply dG (by kernel_rfl)|fail);(conv=>whnf)))
     exact hn18 _ (decide (y13 < (0 : Int))) h10_ (weak_gen [0, 1] rfl rfl (sK rfl (by first | exact rowLe_same fun _ _ _ => rfl | (simp; exact rowLe_same fun _ _ _ => rfl)) (sK rfl (rowLe_vals (valsLe.cons (cellsLe_refl rfl) valsLe.nil)) storeLe.nil)) (sQ rfl rfl))
    ·have e := Option.some.inj h18; subst e
     ((conv=>whnf);repeat((first|apply TT mix|apply sE rfl|apply dG (by kernel_rfl)|fail);(conv=>whnf)))
     exact hn18 _ false h10_ (weak_gen [0, 1] rfl rfl (sK rfl (by first | exact rowLe_same fun _ _ _ => rfl | (simp; exact rowLe_same fun _ _ _ => rfl)) (sK rfl (rowLe_vals (valsLe.cons (cellsLe_refl rfl) valsLe.nil)) storeLe.nil)) (sQ rfl rfl))
   ·clear h10_ h18
    intro s11 hc20
    ((conv=>whnf);repeat((first|apply TT mix|apply sE rfl|apply dG (by kernel_rfl)|fail);(conv=>whnf)))
    refine br_b rfl hc20 (fun c21 hc20 => ?_) (fun c21 hc20 => ?_)
    ·((conv=>whnf);repeat((first|apply TT mix|apply sE rfl|apply dG (by kernel_rfl)|fail);(conv=>whnf)))
     refine grd2 rfl rfl hc20 (fun hc20 => ?_)
     ((conv=>whnf);repeat((first|apply TT mix|apply sE rfl|apply dG (by kernel_rfl)|fail);(conv=>whnf)))
     refine grd2 rfl rfl hc20 (fun hc20 => ?_)
     ((conv=>whnf);repeat((first|apply TT mix|apply sE rfl|apply dG (by kernel_rfl)|fail);(conv=>whnf)))
     refine grd2 rfl rfl hc20 (fun hc20 => ?_)
     ((conv=>whnf);repeat((first|apply TT mix|apply sE rfl|apply dG (by kernel_rfl)|fail);(conv=>whnf)))
     refine grd2 rfl rfl hc20 (fun hc20 => ?_)
     have e := Option.some.inj hc20; subst e
     ((conv=>whnf);repeat((first|apply TT mix|apply sE rfl|apply dG (by kernel_rfl)|fail);(conv=>whnf)))
     exact hn10 _ (((s8.1.set (p_data_o + (s8.2.toNat)) (s8.1.getD (p_data_o + ((IntKind.wrap .i64 (s8.2 - (1 : Int))).toNat)) 0)).set (p_data_o + ((IntKind.wrap .i64 (s8.2 - (1 : Int))).toNat)) (s8.1.getD (p_data_o + (s8.2.toNat)) 0)), (IntKind.wrap .i64 (s8.2 - (1 : Int)))) hs10 (weak_gen [0, 1] rfl rfl (sK rfl (rowLe_ints (by first | rfl | simp)) (sK rfl (rowLe_vals (valsLe.cons (cellsLe_refl rfl) valsLe.nil)) storeLe.nil)) (sQ rfl rfl))
    ·have e := Option.some.inj hc20; subst e
     have e := done_out hs10; subst e
     ((conv=>whnf);repeat((first|apply TT mix|apply sE rfl|apply dG (by kernel_rfl)|fail);(conv=>whnf)))
     exact hn17 _ s8.1 h4 (weak_gen [0, 1] rfl rfl (sK rfl (rowLe_ints (by first | rfl | simp)) (sK rfl (rowLe_vals (valsLe.cons (cellsLe_refl rfl) valsLe.nil)) storeLe.nil)) (sQ rfl rfl))
  ·clear h4 h17
   intro s5 hc22
   have e := Option.some.inj hc22; subst e
   ((conv=>whnf);repeat((first|apply TT mix|apply sE rfl|apply dG (by kernel_rfl)|fail);(conv=>whnf)))
   exact hn4 _ (s5, (IntKind.wrap .i64 (s2.2 + (1 : Int)))) hs4 (weak_gen [0, 1] rfl rfl (sK rfl (rowLe_ints (by first | rfl | simp)) (sK rfl (rowLe_vals (valsLe.cons (cellsLe_refl rfl) valsLe.nil)) storeLe.nil)) (sQ rfl rfl))
 ·have e := Option.some.inj h4; subst e
  have e := done_out hs4; subst e
  have e := Option.some.inj h; subst e
  ((conv=>whnf);repeat((first|apply TT mix|apply sE rfl|apply dG (by kernel_rfl)|fail);(conv=>whnf)))
  exact Or.inr (Or.inr (weak_gen [0, 1] rfl rfl (sK rfl (rowLe_ints (by first | rfl | simp)) (sK rfl (rowLe_vals (valsLe.cons (cellsLe_refl rfl) valsLe.nil)) storeLe.nil)) (slotsLe.cons (cR rfl rfl) slotsLe.nil)))
theorem c_slices_swapRangeCmpFunc_rune_own (p_data : (List Int)) (p_data_o : Nat) (p_data_n : Nat) (p_a : Int) (p_b : Int) (p_n : Int) (p_cmp_0 : T_api_Norm) (r : (List Int)) (h : m_slices_swapRangeCmpFunc_rune_own p_data p_data_o p_data_n p_a p_b p_n p_cmp_0 = some r) : ContractM 2 pl 88 [(.mso 0 p_data_o p_data_n), (.int .i64 p_a), (.int .i64 p_b), (.int .i64 p_n), (.fn (.func 68) [] [(.mp 1 0 0)])] [some ⟨1, 21, (.ints .i32 p_data), false, true⟩, some ⟨3, 26, (.vals [(e_api_Norm p_cmp_0)]), false, false⟩] (.tup []) [some ⟨1, 21, (.ints .i32 r), false, true⟩, some ⟨3, 26, (.vals [(e_api_Norm p_cmp_0)]), false, false⟩] := by
 refine contract_own 2 .z rfl Tryz.func88 rfl (by kernel_rfl) ?_
 ((conv=>whnf);repeat((first|apply TT mix|apply sE rfl|apply dG (by kernel_rfl)|fail);(conv=>whnf)))
 refine bnd h (fun x4 hx4 h => ?_)
 refine loop_iter (fun s2 : (List Int) × Int => mkF 38 [(0, (.mso 0 p_data_o p_data_n)), (1, (.int .i64 p_a)), (2, (.int .i64 p_b)), (3, (.int .i64 p_n)), (10, (.int .i64 s2.2))] [some ⟨1, 21, (.ints .i32 s2.1), false, true⟩, some ⟨3, 26, (.vals [(e_api_Norm p_cmp_0)]), false, false⟩]) hx4 (weak_gen [0, 1] rfl rfl (sK rfl (rowLe_ints (by first | rfl | simp)) (sK rfl (rowLe_vals (valsLe.cons (cellsLe_refl rfl) valsLe.nil)) storeLe.nil)) (sQ rfl rfl)) ?_
 intro k4 s2 st4 Kn4 hn4 h4 hs4
 ((conv=>whnf);repeat((first|apply TT mix|apply sE rfl|apply dG (by kernel_rfl)|fail);(conv=>whnf)))
 refine br_b rfl h4 (fun c6 h4 => ?_) (fun c6 h4 => ?_)
 ·((conv=>whnf);repeat((first|apply TT mix|apply sE rfl|apply dG (by kernel_rfl)|fail);(conv=>whnf)))
  refine grd2 rfl rfl h4 (fun h4 => ?_)
  ((conv=>whnf);repeat((first|apply TT mix|apply sE rfl|apply dG (by kernel_rfl)|fail);(conv=>whnf)))
  refine grd2 rfl rfl h4 (fun h4 => ?_)
  ((conv=>whnf);repeat((first|apply TT mix|apply sE rfl|apply dG (by kernel_rfl)|fail);(conv=>whnf)))
  refine grd2 rfl rfl h4 (fun h4 => ?_)
  ((conv=>whnf);repeat((first|apply TT mix|apply sE rfl|apply dG (by kernel_rfl)|fail);(conv=>whnf)))
  refine grd2 rfl rfl h4 (fun h4 => ?_)
  have e := Option.some.inj h4; subst e
  ((conv=>whnf);repeat((first|apply TT mix|apply sE rfl|apply dG (by kernel_rfl)|fail);(conv=>whnf)))
  exact hn4 _ (((s2.1.set (p_data_o + ((IntKind.wrap .i64 (p_a + s2.2)).toNat)) (s2.1.getD (p_data_o + ((IntKind.wrap .i64 (p_b + s2.2)).toNat)) 0)).set (p_data_o + ((IntKind.wrap .i64 (p_b + s2.2)).toNat)) (s2.1.getD (p_data_o + ((IntKind.wrap .i64 (p_a + s2.2)).toNat)) 0)), (IntKind.wrap .i64 (s2.2 + (1 : Int)))) hs4 (weak_gen [0, 1] rfl rfl (sK rfl (rowLe_ints (by first | rfl | simp)) (sK rfl (rowLe_vals (valsLe.cons (cellsLe_refl rfl) valsLe.nil)) storeLe.nil)) (sQ rfl rfl))
 ·have e := Option.some.inj h4; subst e
  have e := done_out hs4; subst e
  have e := Option.some.inj h; subst e
  ((conv=>whnf);repeat((first|apply TT mix|apply sE rfl|apply dG (by kernel_rfl)|fail);(conv=>whnf)))
  exact Or.inr (Or.inr (weak_gen [0, 1] rfl rfl (sK rfl (rowLe_ints (by first | rfl | simp)) (sK rfl (rowLe_vals (valsLe.cons (cellsLe_refl rfl) valsLe.nil)) storeLe.nil)) (slotsLe.cons (cR rfl rfl) slotsLe.nil)))
theorem c_slices_rotateCmpFunc_rune_own (p_data : (List Int)) (p_data_o : Nat) (p_data_n : Nat) (p_a : Int) (p_m : Int) (p_b : Int) (p_cmp_0 : T_api_Norm) (r : (List Int)) (h : m_slices_rotateCmpFunc_rune_own p_data p_data_o p_data_n p_a p_m p_b p_cmp_0 = some r) : ContractM 2 pl 86 [(.mso 0 p_data_o p_data_n), (.int .i64 p_a), (.int .i64 p_m), (.int .i64 p_b), (.fn (.func 68) [] [(.mp 1 0 0)])] [some ⟨1, 21, (.ints .i32 p_data), false, true⟩, some ⟨3, 26, (.vals [(e_api_Norm p_cmp_0)]), false, false⟩] (.tup []) [some ⟨1, 21, (.ints .i32 r), false, true⟩, some ⟨3, 26, (.vals [(e_api_Norm p_cmp_0)]), false, false⟩] := by
 refine contract_own 2 (.t false .z (.t false .z (.t true .z .z))) rfl Tryz.func86 rfl (by kernel_rfl) ?_
 ((conv=>whnf);repeat((first|apply TT mix|apply sE rfl|apply dG (by kernel_rfl)|fail);(conv=>whnf)))
 refine bnd h (fun x11 h11 h => ?_)
 refine cut_at (fun s1 : (List Int) × Int => mkF 58 [(0, (.mso 0 p_data_o p_data_n)), (2, (.int .i64 p_m)), (4, (.fn (.func 68) [] [(.mp 1 0 0)])), (10, (.int .i64 s1.2))] [some ⟨1, 21, (.ints .i32 s1.1), false, true⟩, some ⟨3, 26, (.vals [(e_api_Norm p_cmp_0)]), false, false⟩]) (fun s1 : (List Int) × Int => m_slices_rotateCmpFunc_rune_own_K2 p_data_o p_data_n p_m p_cmp_0 s1 = some r) ?_ ?_
 ·intro Kn11 hn11
  ((conv=>whnf);repeat((first|apply TT mix|apply sE rfl|apply dG (by kernel_rfl)|fail);(conv=>whnf)))
  refine loop_iter (fun s5 : (List Int) × Int × Int => mkF 58 [(0, (.mso 0 p_data_o p_data_n)), (2, (.int .i64 p_m)), (4, (.fn (.func 68) [] [(.mp 1 0 0)])), (10, (.int .i64 s5.2.1)), (11, (.int .i64 s5.2.2))] [some ⟨1, 21, (.ints .i32 s5.1), false, true⟩, some ⟨3, 26, (.vals [(e_api_Norm p_cmp_0)]), false, false⟩]) h11 (weak_gen [0, 1] rfl rfl (sK rfl (rowLe_ints (by first | rfl | simp)) (sK rfl (rowLe_vals (valsLe.cons (cellsLe_refl rfl) valsLe.nil)) storeLe.nil)) (sQ rfl rfl)) ?_
  intro k7 s5 st7 Kn7 hn7 h7_ hs7
  ((conv=>whnf);repeat((first|apply TT mix|apply sE rfl|apply dG (by kernel_rfl)|fail);(conv=>whnf)))
  refine br_b rfl h7_ (fun c12 h7_ => ?_) (fun c12 h7_ => ?_)
  ·((conv=>whnf);repeat((first|apply TT mix|apply sE rfl|apply dG (by kernel_rfl)|fail);(conv=>whnf)))
   refine br_b rfl h7_ (fun c13 h7_ => ?_) (fun c13 h7_ => ?_)
   ·((conv=>whnf);repeat((first|apply TT mix|apply sE rfl|apply dG (by kernel_rfl)|fail);(conv=>whnf)))
    refine bnd h7_ (fun y8 hy8 h7_ => ?_)
    refine own_intro (own_call [0, 1] (c_slices_swapRangeCmpFunc_rune_own _ _ _ _ _ _ _ _ hy8) rfl (sK rfl (rowLe_ints (by first | rfl | simp)) (sK rfl (rowLe_vals (valsLe.cons (cellsLe_refl rfl) valsLe.nil)) storeLe.nil)) (cellsLe.cons (And.intro rfl (AV.Le.refl _)) (cellsLe.cons (And.intro rfl (AV.Le.refl _)) (cellsLe.cons (And.intro rfl (AV.Le.refl _)) (cellsLe.cons (And.intro rfl (AV.Le.refl _)) (cellsLe.cons (And.intro rfl (AV.Le.refl _)) cellsLe.nil))))) rfl) ?_
    ((conv=>whnf);repeat((first|apply TT mix|apply sE rfl|apply dG (by kernel_rfl)|fail);(conv=>whnf)))
    obtain ⟨p14, h7_⟩ := grdO h7_
    have e := Option.some.inj h7_; subst e
    ((conv=>whnf);repeat((first|apply TT mix|apply sE rfl|apply dG (by kernel_rfl)|fail);(conv=>whnf)))
    exact hn7 _ (y8, (IntKind.wrap .i64 (s5.2.1 - s5.2.2)), s5.2.2) hs7 (weak_gen [0, 1] rfl rfl (sK rfl (rowLe_ints (by first | rfl | simp)) (sK rfl (rowLe_vals (valsLe.cons (cellsLe_refl rfl) valsLe.nil)) storeLe.nil)) (sQ rfl rfl))
   ·((conv=>whnf);repeat((first|apply TT mix|apply sE rfl|apply dG (by kernel_rfl)|fail);(conv=>whnf)))
    refine bnd h7_ (fun y9 hy9 h7_ => ?_)
    refine own_intro (own_call [0, 1] (c_slices_swapRangeCmpFunc_rune_own _ _ _ _ _ _ _ _ hy9) rfl (sK rfl (rowLe_ints (by first | rfl | simp)) (sK rfl (rowLe_vals (valsLe.cons (cellsLe_refl rfl) valsLe.nil)) storeLe.nil)) (cellsLe.cons (And.intro rfl (AV.Le.refl _)) (cellsLe.cons (And.intro rfl (AV.Le.refl _)) (cellsLe.cons (And.intro rfl (AV.Le.refl _)) (cellsLe.cons (And.intro rfl (AV.Le.refl _)) (cellsLe.cons (And.intro rfl (AV.Le.refl _)) cellsLe.nil))))) rfl) ?_
    ((conv=>whnf);repeat((first|apply TT mix|apply sE rfl|apply dG (by kernel_rfl)|fail);(conv=>whnf)))
    obtain ⟨p15, h7_⟩ := grdO h7_
    have e := Option.some.inj h7_; subst e
    ((conv=>whnf);repeat((first|apply TT mix|apply sE rfl|apply dG (by kernel_rfl)|fail);(conv=>whnf)))
    exact hn7 _ (y9, s5.2.1, (IntKind.wrap .i64 (s5.2.2 - s5.2.1))) hs7 (weak_gen [0, 1] rfl rfl (sK rfl (rowLe_ints (by first | rfl | simp)) (sK rfl (rowLe_vals (valsLe.cons (cellsLe_refl rfl) valsLe.nil)) storeLe.nil)) (sQ rfl rfl))
  ·have e := Option.some.inj h7_; subst e
   have e := done_out hs7; subst e
   ((conv=>whnf);repeat((first|apply TT mix|apply sE rfl|apply dG (by kernel_rfl)|fail);(conv=>whnf)))
   exact hn11 _ (s5.1, s5.2.1) h (weak_gen [0, 1] rfl rfl (sK rfl (rowLe_ints (by first | rfl | simp)) (sK rfl (rowLe_vals (valsLe.cons (cellsLe_refl rfl) valsLe.nil)) storeLe.nil)) (sQ rfl rfl))
 ·clear h h11
  intro s1 hc16
  ((conv=>whnf);repeat((first|apply TT mix|apply sE rfl|apply dG (by kernel_rfl)|fail);(conv=>whnf)))
  refine bnd hc16 (fun y3 hy3 hc16 => ?_)
  refine own_intro (own_call [0, 1] (c_slices_swapRangeCmpFunc_rune_own _ _ _ _ _ _ _ _ hy3) rfl (sK rfl (rowLe_ints (by first | rfl | simp)) (sK rfl (rowLe_vals (valsLe.cons (cellsLe_refl rfl) valsLe.nil)) storeLe.nil)) (cellsLe.cons (And.intro rfl (AV.Le.refl _)) (cellsLe.cons (And.intro rfl (AV.Le.refl _)) (cellsLe.cons (And.intro rfl (AV.Le.refl _)) (cellsLe.cons (And.intro rfl (AV.Le.refl _)) (cellsLe.cons (And.intro rfl (AV.Le.refl _)) cellsLe.nil))))) rfl) ?_
  ((conv=>whnf);repeat((first|apply TT mix|apply sE rfl|apply dG (by kernel_rfl)|fail);(conv=>whnf)))
  obtain ⟨p17, hc16⟩ := grdO hc16
  have e := Option.some.inj hc16; subst e
  ((conv=>whnf);repeat((first|apply TT mix|apply sE rfl|apply dG (by kernel_rfl)|fail);(conv=>whnf)))
  exact Or.inr (Or.inr (weak_gen [0, 1] rfl rfl (sK rfl (rowLe_ints (by first | rfl | simp)) (sK rfl (rowLe_vals (valsLe.cons (cellsLe_refl rfl) valsLe.nil)) storeLe.nil)) (slotsLe.cons (cR rfl rfl) slotsLe.nil)))
theorem c_slices_symMergeCmpFunc_rune_own_body (rec_ : (List Int) → Nat → Nat → Int → Int → Int → T_api_Norm → Option (List Int)) (hrec : ∀ (p_data : (List Int)) (p_data_o : Nat) (p_data_n : Nat) (p_a : Int) (p_m : Int) (p_b : Int) (p_cmp_0 : T_api_Norm) (r : (List Int)), rec_ p_data p_data_o p_data_n p_a p_m p_b p_cmp_0 = some r → ContractM 2 pl 83 [(.mso 0 p_data_o p_data_n), (.int .i64 p_a), (.int .i64 p_m), (.int .i64 p_b), (.fn (.func 68) [] [(.mp 1 0 0)])] [some ⟨1, 21, (.ints .i32 p_data), false, true⟩, some ⟨3, 26, (.vals [(e_api_Norm p_cmp_0)]), false, false⟩] (.tup []) [some ⟨1, 21, (.ints .i32 r), false, true⟩, some ⟨3, 26, (.vals [(e_api_Norm p_cmp_0)]), false, false⟩]) (p_data : (List Int)) (p_data_o : Nat) (p_data_n : Nat) (p_a : Int) (p_m : Int) (p_b : Int) (p_cmp_0 : T_api_Norm) (r : (List Int)) (h : m_slices_symMergeCmpFunc_rune_own_body rec_ p_data p_data_o p_data_n p_a p_m p_b p_cmp_0 = some r) : ContractM 2 pl 83 [(.mso 0 p_data_o p_data_n), (.int .i64 p_a), (.int .i64 p_m), (.int .i64 p_b), (.fn (.func 68) [] [(.mp 1 0 0)])] [some ⟨1, 21, (.ints .i32 p_data), false, true⟩, some ⟨3, 26, (.vals [(e_api_Norm p_cmp_0)]), false, false⟩] (.tup []) [some ⟨1, 21, (.ints .i32 r), false, true⟩, some ⟨3, 26, (.vals [(e_api_Norm p_cmp_0)]), false, false⟩] := by
 refine contract_own 2 (.t true (.t false .z (.t false (.t false .z (.t false .z (.t true .z .z))) .z)) (.t true (.t false .z (.t false (.t false .z (.t false .z (.t true .z .z))) .z)) (.t false .z (.t false .z (.t false .z (.t true .z (.t false .z (.t true .z (.t false .z (.t true (.t true .z .z) (.t true (.t true .z .z) (.t true .z .z)))))))))))) rfl Tryz.func83 rfl (by kernel_rfl) ?_
 ((conv=>whnf);repeat((first|apply TT mix|apply sE rfl|apply dG (by kernel_rfl)|fail);(conv=>whnf)))
 refine bnd h (fun x56 h56 h => ?_)
 refine cut_at (fun s1 : Unit => mkF 220 [(0, (.mso 0 p_data_o p_data_n)), (1, (.int .i64 p_a)), (2, (.int .i64 p_m)), (3, (.int .i64 p_b)), (4, (.fn (.func 68) [] [(.mp 1 0 0)]))] [some ⟨1, 21, (.ints .i32 p_data), false, true⟩, some ⟨3, 26, (.vals [(e_api_Norm p_cmp_0)]), false, false⟩]) (fun s1 : Unit => m_slices_symMergeCmpFunc_rune_own_K2 p_data p_data_o p_data_n p_a p_m p_b p_cmp_0 rec_ s1 = some r) ?_ ?_
 ·intro Kn56 hn56
  ((conv=>whnf);repeat((first|apply TT mix|apply sE rfl|apply dG (by kernel_rfl)|fail);(conv=>whnf)))
  refine br_b rfl h56 (fun c57 h56 => ?_) (fun c57 h56 => ?_)
  ·((conv=>whnf);repeat((first|apply TT mix|apply sE rfl|apply dG (by kernel_rfl)|fail);(conv=>whnf)))
   refine bnd h56 (fun x58 h58 h56 => ?_)
   refine cut_at (fun s42 : Int => mkF 220 [(0, (.mso 0 p_data_o p_data_n)), (1, (.int .i64 p_a)), (10, (.int .i64 s42))] [some ⟨1, 21, (.ints .i32 p_data), false, true⟩, some ⟨3, 26, (.vals [(e_api_Norm p_cmp_0)]), false, false⟩]) (fun s42 : Int => m_slices_symMergeCmpFunc_rune_own_K43 p_data p_data_o p_data_n p_a s42 = some x56) ?_ ?_
   ·intro Kn58 hn58
    ((conv=>whnf);repeat((first|apply TT mix|apply sE rfl|apply dG (by kernel_rfl)|fail);(conv=>whnf)))
    refine loop_iter (fun s50 : Int × Int => mkF 220 [(0, (.mso 0 p_data_o p_data_n)), (1, (.int .i64 p_a)), (4, (.fn (.func 68) [] [(.mp 1 0 0)])), (10, (.int .i64 s50.1)), (11, (.int .i64 s50.2))] [some ⟨1, 21, (.ints .i32 p_data), false, true⟩, some ⟨3, 26, (.vals [(e_api_Norm p_cmp_0)]), false, false⟩]) h58 (weak_gen [0, 1] rfl rfl (sK rfl (by first | exact rowLe_same fun _ _ _ => rfl | (simp; exact rowLe_same fun _ _ _ => rfl)) (sK rfl (rowLe_vals (valsLe.cons (cellsLe_refl rfl) valsLe.nil)) storeLe.nil)) (sQ rfl rfl)) ?_
    intro k52 s50 st52 Kn52 hn52 h52_ hs52
    ((conv=>whnf);repeat((first|apply TT mix|apply sE rfl|apply dG (by kernel_rfl)|fail);(conv=>whnf)))
    refine br_b rfl h52_ (fun c59 h52_ => ?_) (fun c59 h52_ => ?_)
    ·((conv=>whnf);repeat((first|apply TT mix|apply sE rfl|apply dG (by kernel_rfl)|fail);(conv=>whnf)))
     refine And.intro (by decide) ?_
     ((conv=>whnf);repeat((first|apply TT mix|apply sE rfl|apply dG (by kernel_rfl)|fail);(conv=>whnf)))
     refine grd2 rfl rfl h52_ (fun h52_ => ?_)
     ((conv=>whnf);repeat((first|apply TT mix|apply sE rfl|apply dG (by kernel_rfl)|fail);(conv=>whnf)))
     refine grd2 rfl rfl h52_ (fun h52_ => ?_)
     ((conv=>whnf);repeat((first|apply TT mix|apply sE rfl|apply dG (by kernel_rfl)|fail);(conv=>whnf)))
     refine bnd h52_ (fun y53 hy53 h52_ => ?_)
     refine Or.inl ⟨_, c_decomp_Order_1 _ _ _ _ hy53, rfl, ?_⟩
     ((conv=>whnf);repeat((first|apply TT mix|apply sE rfl|apply dG (by kernel_rfl)|fail);(conv=>whnf)))
     refine br_b rfl h52_ (fun c60 h52_ => ?_) (fun c60 h52_ => ?_)
     ·have e := Option.some.inj h52_; subst e
      ((conv=>whnf);repeat((first|apply TT mix|apply sE rfl|apply dG (by kernel_rfl)|fail);(conv=>whnf)))
      exact hn52 _ ((IntKind.wrap .i64 ((IntKind.wrap .i64 (Int.fdiv (IntKind.wrap .u64 (IntKind.wrap .i64 (s50.1 + s50.2))) 2)) + (1 : Int))), s50.2) hs52 (weak_gen [0, 1] rfl rfl (sK rfl (by first | exact rowLe_same fun _ _ _ => rfl | (simp; exact rowLe_same fun _ _ _ => rfl)) (sK rfl (rowLe_vals (valsLe.cons (cellsLe_refl rfl) valsLe.nil)) storeLe.nil)) (sQ rfl rfl))
     ·have e := Option.some.inj h52_; subst e
      ((conv=>whnf);repeat((first|apply TT mix|apply sE rfl|apply dG (by kernel_rfl)|fail);(conv=>whnf)))
      exact hn52 _ (s50.1, (IntKind.wrap .i64 (Int.fdiv (IntKind.wrap .u64 (IntKind.wrap .i64 (s50.1 + s50.2))) 2))) hs52 (weak_gen [0, 1] rfl rfl (sK rfl (by first | exact rowLe_same fun _ _ _ => rfl | (simp; exact rowLe_same fun _ _ _ => rfl)) (sK rfl (rowLe_vals (valsLe.cons (cellsLe_refl rfl) valsLe.nil)) storeLe.nil)) (sQ rfl rfl))
    ·have e := Option.some.inj h52_; subst e
     have e := done_out hs52; subst e
     ((conv=>whnf);repeat((first|apply TT mix|apply sE rfl|apply dG (by kernel_rfl)|fail);(conv=>whnf)))
     exact hn58 _ s50.1 h56 (weak_gen [0, 1] rfl rfl (sK rfl (by first | exact rowLe_same fun _ _ _ => rfl | (simp; exact rowLe_same fun _ _ _ => rfl)) (sK rfl (rowLe_vals (valsLe.cons (cellsLe_refl rfl) valsLe.nil)) storeLe.nil)) (sQ rfl rfl))
   ·clear h56 h58
    intro s42 hc61
    ((conv=>whnf);repeat((first|apply TT mix|apply sE rfl|apply dG (by kernel_rfl)|fail);(conv=>whnf)))
    refine bnd hc61 (fun x47 hx47 hc61 => ?_)
    refine loop_iter (fun s45 : (List Int) × Int => mkF 220 [(0, (.mso 0 p_data_o p_data_n)), (10, (.int .i64 s42)), (13, (.int .i64 s45.2))] [some ⟨1, 21, (.ints .i32 s45.1), false, true⟩, some ⟨3, 26, (.vals [(e_api_Norm p_cmp_0)]), false, false⟩]) hx47 (weak_gen [0, 1] rfl rfl (sK rfl (rowLe_ints (by first | rfl | simp)) (sK rfl (rowLe_vals (valsLe.cons (cellsLe_refl rfl) valsLe.nil)) storeLe.nil)) (sQ rfl rfl)) ?_
    intro k47 s45 st47 Kn47 hn47 h47 hs47
    ((conv=>whnf);repeat((first|apply TT mix|apply sE rfl|apply dG (by kernel_rfl)|fail);(conv=>whnf)))
    refine br_b rfl h47 (fun c62 h47 => ?_) (fun c62 h47 => ?_)
    ·((conv=>whnf);repeat((first|apply TT mix|apply sE rfl|apply dG (by kernel_rfl)|fail);(conv=>whnf)))
     refine grd2 rfl rfl h47 (fun h47 => ?_)
     ((conv=>whnf);repeat((first|apply TT mix|apply sE rfl|apply dG (by kernel_rfl)|fail);(conv=>whnf)))
     refine grd2 rfl rfl h47 (fun h47 => ?_)
     ((conv=>whnf);repeat((first|apply TT mix|apply sE rfl|apply dG (by kernel_rfl)|fail);(conv=>whnf)))
     refine grd2 rfl rfl h47 (fun h47 => ?_)
     ((conv=>whnf);repeat((first|apply TT mix|apply sE rfl|apply dG (by kernel_rfl)|fail);(conv=>whnf)))
     refine grd2 rfl rfl h47 (fun h47 => ?_)
     have e := Option.some.inj h47; subst e
     ((conv=>whnf);repeat((first|apply TT mix|apply sE rfl|apply dG (by kernel_rfl)|fail);(conv=>whnf)))
     exact hn47 _ (((s45.1.set (p_data_o + (s45.2.toNat)) (s45.1.getD (p_data_o + ((IntKind.wrap .i64 (s45.2 + (1 : Int))).toNat)) 0)).set (p_data_o + ((IntKind.wrap .i64 (s45.2 + (1 : Int))).toNat)) (s45.1.getD (p_data_o + (s45.2.toNat)) 0)), (IntKind.wrap .i64 (s45.2 + (1 : Int)))) hs47 (weak_gen [0, 1] rfl rfl (sK rfl (rowLe_ints (by first | rfl | simp)) (sK rfl (rowLe_vals (valsLe.cons (cellsLe_refl rfl) valsLe.nil)) storeLe.nil)) (sQ rfl rfl))
    ·have e := Option.some.inj h47; subst e
     have e := done_out hs47; subst e
     have e := Option.some.inj hc61; subst e
     have e := Option.some.inj h; subst e
     ((conv=>whnf);repeat((first|apply TT mix|apply sE rfl|apply dG (by kernel_rfl)|fail);(conv=>whnf)))
     exact Or.inr (Or.inr (weak_gen [0, 1] rfl rfl (sK rfl (rowLe_ints (by first | rfl | simp)) (sK rfl (rowLe_vals (valsLe.cons (cellsLe_refl rfl) valsLe.nil)) storeLe.nil)) (slotsLe.cons (cR rfl rfl) slotsLe.nil)))
  ·have e := Option.some.inj h56; subst e
   ((conv=>whnf);repeat((first|apply TT mix|apply sE rfl|apply dG (by kernel_rfl)|fail);(conv=>whnf)))
   exact hn56 _ () h (weak_gen [0, 1] rfl rfl (sK rfl (by first | exact rowLe_same fun _ _ _ => rfl | (simp; exact rowLe_same fun _ _ _ => rfl)) (sK rfl (rowLe_vals (valsLe.cons (cellsLe_refl rfl) valsLe.nil)) storeLe.nil)) (sQ rfl rfl))
 ·clear h h56
  intro s1 hc63
  ((conv=>whnf);repeat((first|apply TT mix|apply sE rfl|apply dG (by kernel_rfl)|fail);(conv=>whnf)))
  refine bnd hc63 (fun x64 h64 hc63 => ?_)
  refine cut_at (fun s3 : Unit => mkF 220 [(0, (.mso 0 p_data_o p_data_n)), (1, (.int .i64 p_a)), (2, (.int .i64 p_m)), (3, (.int .i64 p_b)), (4, (.fn (.func 68) [] [(.mp 1 0 0)]))] [some ⟨1, 21, (.ints .i32 p_data), false, true⟩, some ⟨3, 26, (.vals [(e_api_Norm p_cmp_0)]), false, false⟩]) (fun s3 : Unit => m_slices_symMergeCmpFunc_rune_own_K4 p_data p_data_o p_data_n p_a p_m p_b p_cmp_0 rec_ s3 = some r) ?_ ?_
  ·intro Kn64 hn64
   ((conv=>whnf);repeat((first|apply TT mix|apply sE rfl|apply dG (by kernel_rfl)|fail);(conv=>whnf)))
   refine br_b rfl h64 (fun c65 h64 => ?_) (fun c65 h64 => ?_)
   ·((conv=>whnf);repeat((first|apply TT mix|apply sE rfl|apply dG (by kernel_rfl)|fail);(conv=>whnf)))
    refine bnd h64 (fun x66 h66 h64 => ?_)
    refine cut_at (fun s28 : Int => mkF 220 [(0, (.mso 0 p_data_o p_data_n)), (2, (.int .i64 p_m)), (14, (.int .i64 s28))] [some ⟨1, 21, (.ints .i32 p_data), false, true⟩, some ⟨3, 26, (.vals [(e_api_Norm p_cmp_0)]), false, false⟩]) (fun s28 : Int => m_slices_symMergeCmpFunc_rune_own_K29 p_data p_data_o p_data_n p_m s28 = some x64) ?_ ?_
    ·intro Kn66 hn66
     ((conv=>whnf);repeat((first|apply TT mix|apply sE rfl|apply dG (by kernel_rfl)|fail);(conv=>whnf)))
     refine loop_iter (fun s36 : Int × Int => mkF 220 [(0, (.mso 0 p_data_o p_data_n)), (2, (.int .i64 p_m)), (4, (.fn (.func 68) [] [(.mp 1 0 0)])), (14, (.int .i64 s36.1)), (15, (.int .i64 s36.2))] [some ⟨1, 21, (.ints .i32 p_data), false, true⟩, some ⟨3, 26, (.vals [(e_api_Norm p_cmp_0)]), false, false⟩]) h66 (weak_gen [0, 1] rfl rfl (sK rfl (by first | exact rowLe_same fun _ _ _ => rfl | (simp; exact rowLe_same fun _ _ _ => rfl)) (sK rfl (rowLe_vals (valsLe.cons (cellsLe_refl rfl) valsLe.nil)) storeLe.nil)) (sQ rfl rfl)) ?_
     intro k38 s36 st38 Kn38 hn38 h38_ hs38
     ((conv=>whnf);repeat((first|apply TT mix|apply sE rfl|apply dG (by kernel_rfl)|fail);(conv=>whnf)))
     refine br_b rfl h38_ (fun c67 h38_ => ?_) (fun c67 h38_ => ?_)
     ·((conv=>whnf);repeat((first|apply TT mix|apply sE rfl|apply dG (by kernel_rfl)|fail);(conv=>whnf)))
      refine And.intro (by decide) ?_
      ((conv=>whnf);repeat((first|apply TT mix|apply sE rfl|apply dG (by kernel_rfl)|fail);(conv=>whnf)))
      refine grd2 rfl rfl h38_ (fun h38_ => ?_)
      ((conv=>whnf);repeat((first|apply TT mix|apply sE rfl|apply dG (by kernel_rfl)|fail);(conv=>whnf)))
      refine grd2 rfl rfl h38_ (fun h38_ => ?_)
      ((conv=>whnf);repeat((first|apply TT mix|apply sE rfl|apply dG (by kernel_rfl)|fail);(conv=>whnf)))
      refine bnd h38_ (fun y39 hy39 h38_ => ?_)
      refine Or.inl ⟨_, c_decomp_Order_1 _ _ _ _ hy39, rfl, ?_⟩
      ((conv=>whnf);repeat((first|apply TT mix|apply sE rfl|apply dG (by kernel_rfl)|fail);(conv=>whnf)))
      refine br_b rfl h38_ (fun c68 h38_ => ?_) (fun c68 h38_ => ?_)
      ·have e := Option.some.inj h38_; subst e
       ((conv=>whnf);repeat((first|apply TT mix|apply sE rfl|apply dG (by kernel_rfl)|fail);(conv=>whnf)))
       exact hn38 _ ((IntKind.wrap .i64 ((IntKind.wrap .i64 (Int.fdiv (IntKind.wrap .u64 (IntKind.wrap .i64 (s36.1 + s36.2))) 2)) + (1 : Int))), s36.2) hs38 (weak_gen [0, 1] rfl rfl (sK rfl (by first | exact rowLe_same fun _ _ _ => rfl | (simp; exact rowLe_same fun _ _ _ => rfl)) (sK rfl (rowLe_vals (valsLe.cons (cellsLe_refl rfl) valsLe.nil)) storeLe.nil)) (sQ rfl rfl))
      ·have e := Option.some.inj h38_; subst e
       ((conv=>whnf);repeat((first|apply TT mix|apply sE rfl|apply dG (by kernel_rfl)|fail);(conv=>whnf)))
       exact hn38 _ (s36.1, (IntKind.wrap .i64 (Int.fdiv (IntKind.wrap .u64 (IntKind.wrap .i64 (s36.1 + s36.2))) 2))) hs38 (weak_gen [0, 1] rfl rfl (sK rfl (by first | exact rowLe_same fun _ _ _ => rfl | (simp; exact rowLe_same fun _ _ _ => rfl)) (sK rfl (rowLe_vals (valsLe.cons (cellsLe_refl rfl) valsLe.nil)) storeLe.nil)) (sQ rfl rfl))
     ·have e := Option.some.inj h38_; subst e
      have e := done_out hs38; subst e
      ((conv=>whnf);repeat((first|apply TT mix|apply sE rfl|apply dG (by kernel_rfl)|fail);(conv=>whnf)))
      exact hn66 _ s36.1 h64 (weak_gen [0, 1] rfl rfl (sK rfl (by first | exact rowLe_same fun _ _ _ => rfl | (simp; exact rowLe_same fun _ _ _ => rfl)) (sK rfl (rowLe_vals (valsLe.cons (cellsLe_refl rfl) valsLe.nil)) storeLe.nil)) (sQ rfl rfl))
    ·clear h64 h66
     intro s28 hc69
     ((conv=>whnf);repeat((first|apply TT mix|apply sE rfl|apply dG (by kernel_rfl)|fail);(conv=>whnf)))
     refine bnd hc69 (fun x33 hx33 hc69 => ?_)
     refine loop_iter (fun s31 : (List Int) × Int => mkF 220 [(0, (.mso 0 p_data_o p_data_n)), (14, (.int .i64 s28)), (17, (.int .i64 s31.2))] [some ⟨1, 21, (.ints .i32 s31.1), false, true⟩, some ⟨3, 26, (.vals [(e_api_Norm p_cmp_0)]), false, false⟩]) hx33 (weak_gen [0, 1] rfl rfl (sK rfl (rowLe_ints (by first | rfl | simp)) (sK rfl (rowLe_vals (valsLe.cons (cellsLe_refl rfl) valsLe.nil)) storeLe.nil)) (sQ rfl rfl)) ?_
     intro k33 s31 st33 Kn33 hn33 h33 hs33
     ((conv=>whnf);repeat((first|apply TT mix|apply sE rfl|apply dG (by kernel_rfl)|fail);(conv=>whnf)))
     refine br_b rfl h33 (fun c70 h33 => ?_) (fun c70 h33 => ?_)
     ·((conv=>whnf);repeat((first|apply TT mix|apply sE rfl|apply dG (by kernel_rfl)|fail);(conv=>whnf)))
      refine grd2 rfl rfl h33 (fun h33 => ?_)
      ((conv=>whnf);repeat((first|apply TT mix|apply sE rfl|apply dG (by kernel_rfl)|fail);(conv=>whnf)))
      refine grd2 rfl rfl h33 (fun h33 => ?_)
      ((conv=>whnf);repeat((first|apply TT mix|apply sE rfl|apply dG (by kernel_rfl)|fail);(conv=>whnf)))
      refine grd2 rfl rfl h33 (fun h33 => ?_)
      ((conv=>whnf);repeat((first|apply TT mix|apply sE rfl|apply dG (by kernel_rfl)|fail);(conv=>whnf)))
      refine grd2 rfl rfl h33 (fun h33 => ?_)
      have e := Option.some.inj h33; subst e
      ((conv=>whnf);repeat((first|apply TT mix|apply sE rfl|apply dG (by kernel_rfl)|fail);(conv=>whnf)))
      exact hn33 _ (((s31.1.set (p_data_o + (s31.2.toNat)) (s31.1.getD (p_data_o + ((IntKind.wrap .i64 (s31.2 - (1 : Int))).toNat)) 0)).set (p_data_o + ((IntKind.wrap .i64 (s31.2 - (1 : Int))).toNat)) (s31.1.getD (p_data_o + (s31.2.toNat)) 0)), (IntKind.wrap .i64 (s31.2 - (1 : Int)))) hs33 (weak_gen [0, 1] rfl rfl (sK rfl (rowLe_ints (by first | rfl | simp)) (sK rfl (rowLe_vals (valsLe.cons (cellsLe_refl rfl) valsLe.nil)) storeLe.nil)) (sQ rfl rfl))
     ·have e := Option.some.inj h33; subst e
      have e := done_out hs33; subst e
      have e := Option.some.inj hc69; subst e
      have e := Option.some.inj hc63; subst e
      ((conv=>whnf);repeat((first|apply TT mix|apply sE rfl|apply dG (by kernel_rfl)|fail);(conv=>whnf)))
      exact Or.inr (Or.inr (weak_gen [0, 1] rfl rfl (sK rfl (rowLe_ints (by first | rfl | simp)) (sK rfl (rowLe_vals (valsLe.cons (cellsLe_refl rfl) valsLe.nil)) storeLe.nil)) (slotsLe.cons (cR rfl rfl) slotsLe.nil)))
   ·have e := Option.some.inj h64; subst e
    ((conv=>whnf);repeat((first|apply TT mix|apply sE rfl|apply dG (by kernel_rfl)|fail);(conv=>whnf)))
    exact hn64 _ () hc63 (weak_gen [0, 1] rfl rfl (sK rfl (by first | exact rowLe_same fun _ _ _ => rfl | (simp; exact rowLe_same fun _ _ _ => rfl)) (sK rfl (rowLe_vals (valsLe.cons (cellsLe_refl rfl) valsLe.nil)) storeLe.nil)) (sQ rfl rfl))
  ·clear hc63 h64
   intro s3 hc71
   ((conv=>whnf);repeat((first|apply TT mix|apply sE rfl|apply dG (by kernel_rfl)|fail);(conv=>whnf)))
   refine And.intro (by decide) ?_
   ((conv=>whnf);repeat((first|apply TT mix|apply sE rfl|apply dG (by kernel_rfl)|fail);(conv=>whnf)))
   refine bnd hc71 (fun x72 h72 hc71 => ?_)
   refine cut_at (fun s5 : Int × Int => mkF 220 [(0, (.mso 0 p_data_o p_data_n)), (1, (.int .i64 p_a)), (2, (.int .i64 p_m)), (3, (.int .i64 p_b)), (4, (.fn (.func 68) [] [(.mp 1 0 0)])), (18, (.int .i64 (IntKind.wrap .i64 (Int.fdiv (IntKind.wrap .u64 (IntKind.wrap .i64 (p_a + p_b))) 2)))), (19, (.int .i64 (IntKind.wrap .i64 ((IntKind.wrap .i64 (Int.fdiv (IntKind.wrap .u64 (IntKind.wrap .i64 (p_a + p_b))) 2)) + p_m)))), (20, (.int .i64 s5.1)), (21, (.int .i64 s5.2))] [some ⟨1, 21, (.ints .i32 p_data), false, true⟩, some ⟨3, 26, (.vals [(e_api_Norm p_cmp_0)]), false, false⟩]) (fun s5 : Int × Int => m_slices_symMergeCmpFunc_rune_own_K6 p_data p_data_o p_data_n p_a p_m p_b p_cmp_0 rec_ s5 = some r) ?_ ?_
   ·intro Kn72 hn72
    ((conv=>whnf);repeat((first|apply TT mix|apply sE rfl|apply dG (by kernel_rfl)|fail);(conv=>whnf)))
    refine br_b rfl h72 (fun c73 h72 => ?_) (fun c73 h72 => ?_)
    ·have e := Option.some.inj h72; subst e
     ((conv=>whnf);repeat((first|apply TT mix|apply sE rfl|apply dG (by kernel_rfl)|fail);(conv=>whnf)))
     exact hn72 _ ((IntKind.wrap .i64 ((IntKind.wrap .i64 ((IntKind.wrap .i64 (Int.fdiv (IntKind.wrap .u64 (IntKind.wrap .i64 (p_a + p_b))) 2)) + p_m)) - p_b)), (IntKind.wrap .i64 (Int.fdiv (IntKind.wrap .u64 (IntKind.wrap .i64 (p_a + p_b))) 2))) hc71 (weak_gen [0, 1] rfl rfl (sK rfl (by first | exact rowLe_same fun _ _ _ => rfl | (simp; exact rowLe_same fun _ _ _ => rfl)) (sK rfl (rowLe_vals (valsLe.cons (cellsLe_refl rfl) valsLe.nil)) storeLe.nil)) (sQ rfl rfl))
    ·have e := Option.some.inj h72; subst e
     ((conv=>whnf);repeat((first|apply TT mix|apply sE rfl|apply dG (by kernel_rfl)|fail);(conv=>whnf)))
     exact hn72 _ (p_a, p_m) hc71 (weak_gen [0, 1] rfl rfl (sK rfl (by first | exact rowLe_same fun _ _ _ => rfl | (simp; exact rowLe_same fun _ _ _ => rfl)) (sK rfl (rowLe_vals (valsLe.cons (cellsLe_refl rfl) valsLe.nil)) storeLe.nil)) (sQ rfl rfl))
   ·clear hc71 h72
    intro s5 hc74
    ((conv=>whnf);repeat((first|apply TT mix|apply sE rfl|apply dG (by kernel_rfl)|fail);(conv=>whnf)))
    refine bnd hc74 (fun x75 h75 hc74 => ?_)
    refine cut_at (fun s7 : Int => mkF 220 [(0, (.mso 0 p_data_o p_data_n)), (1, (.int .i64 p_a)), (2, (.int .i64 p_m)), (3, (.int .i64 p_b)), (4, (.fn (.func 68) [] [(.mp 1 0 0)])), (18, (.int .i64 (IntKind.wrap .i64 (Int.fdiv (IntKind.wrap .u64 (IntKind.wrap .i64 (p_a + p_b))) 2)))), (19, (.int .i64 (IntKind.wrap .i64 ((IntKind.wrap .i64 (Int.fdiv (IntKind.wrap .u64 (IntKind.wrap .i64 (p_a + p_b))) 2)) + p_m)))), (20, (.int .i64 s7))] [some ⟨1, 21, (.ints .i32 p_data), false, true⟩, some ⟨3, 26, (.vals [(e_api_Norm p_cmp_0)]), false, false⟩]) (fun s7 : Int => m_slices_symMergeCmpFunc_rune_own_K8 p_data p_data_o p_data_n p_a p_m p_b p_cmp_0 rec_ s7 = some r) ?_ ?_
    ·intro Kn75 hn75
     ((conv=>whnf);repeat((first|apply TT mix|apply sE rfl|apply dG (by kernel_rfl)|fail);(conv=>whnf)))
     refine loop_iter (fun s23 : Int × Int => mkF 220 [(0, (.mso 0 p_data_o p_data_n)), (1, (.int .i64 p_a)), (2, (.int .i64 p_m)), (3, (.int .i64 p_b)), (4, (.fn (.func 68) [] [(.mp 1 0 0)])), (18, (.int .i64 (IntKind.wrap .i64 (Int.fdiv (IntKind.wrap .u64 (IntKind.wrap .i64 (p_a + p_b))) 2)))), (19, (.int .i64 (IntKind.wrap .i64 ((IntKind.wrap .i64 (Int.fdiv (IntKind.wrap .u64 (IntKind.wrap .i64 (p_a + p_b))) 2)) + p_m)))), (20, (.int .i64 s23.1)), (21, (.int .i64 s23.2)), (22, (.int .i64 (IntKind.wrap .i64 ((IntKind.wrap .i64 ((IntKind.wrap .i64 (Int.fdiv (IntKind.wrap .u64 (IntKind.wrap .i64 (p_a + p_b))) 2)) + p_m)) - (1 : Int)))))] [some ⟨1, 21, (.ints .i32 p_data), false, true⟩, some ⟨3, 26, (.vals [(e_api_Norm p_cmp_0)]), false, false⟩]) h75 (weak_gen [0, 1] rfl rfl (sK rfl (by first | exact rowLe_same fun _ _ _ => rfl | (simp; exact rowLe_same fun _ _ _ => rfl)) (sK rfl (rowLe_vals (valsLe.cons (cellsLe_refl rfl) valsLe.nil)) storeLe.nil)) (sQ rfl rfl)) ?_
     intro k25 s23 st25 Kn25 hn25 h25_ hs25
     ((conv=>whnf);repeat((first|apply TT mix|apply sE rfl|apply dG (by kernel_rfl)|fail);(conv=>whnf)))
     refine br_b rfl h25_ (fun c76 h25_ => ?_) (fun c76 h25_ => ?_)
     ·((conv=>whnf);repeat((first|apply TT mix|apply sE rfl|apply dG (by kernel_rfl)|fail);(conv=>whnf)))
      refine And.intro (by decide) ?_
      ((conv=>whnf);repeat((first|apply TT mix|apply sE rfl|apply dG (by kernel_rfl)|fail);(conv=>whnf)))
      refine grd2 rfl rfl h25_ (fun h25_ => ?_)
      ((conv=>whnf);repeat((first|apply TT mix|apply sE rfl|apply dG (by kernel_rfl)|fail);(conv=>whnf)))
      refine grd2 rfl rfl h25_ (fun h25_ => ?_)
      ((conv=>whnf);repeat((first|apply TT mix|apply sE rfl|apply dG (by kernel_rfl)|fail);(conv=>whnf)))
      refine bnd h25_ (fun y26 hy26 h25_ => ?_)
      refine Or.inl ⟨_, c_decomp_Order_1 _ _ _ _ hy26, rfl, ?_⟩
      ((conv=>whnf);repeat((first|apply TT mix|apply sE rfl|apply dG (by kernel_rfl)|fail);(conv=>whnf)))
      refine br_b rfl h25_ (fun c77 h25_ => ?_) (fun c77 h25_ => ?_)
      ·have e := Option.some.inj h25_; subst e
       ((conv=>whnf);repeat((first|apply TT mix|apply sE rfl|apply dG (by kernel_rfl)|fail);(conv=>whnf)))
       exact hn25 _ ((IntKind.wrap .i64 ((IntKind.wrap .i64 (Int.fdiv (IntKind.wrap .u64 (IntKind.wrap .i64 (s23.1 + s23.2))) 2)) + (1 : Int))), s23.2) hs25 (weak_gen [0, 1] rfl rfl (sK rfl (by first | exact rowLe_same fun _ _ _ => rfl | (simp; exact rowLe_same fun _ _ _ => rfl)) (sK rfl (rowLe_vals (valsLe.cons (cellsLe_refl rfl) valsLe.nil)) storeLe.nil)) (sQ rfl rfl))
      ·have e := Option.some.inj h25_; subst e
       ((conv=>whnf);repeat((first|apply TT mix|apply sE rfl|apply dG (by kernel_rfl)|fail);(conv=>whnf)))
       exact hn25 _ (s23.1, (IntKind.wrap .i64 (Int.fdiv (IntKind.wrap .u64 (IntKind.wrap .i64 (s23.1 + s23.2))) 2))) hs25 (weak_gen [0, 1] rfl rfl (sK rfl (by first | exact rowLe_same fun _ _ _ => rfl | (simp; exact rowLe_same fun _ _ _ => rfl)) (sK rfl (rowLe_vals (valsLe.cons (cellsLe_refl rfl) valsLe.nil)) storeLe.nil)) (sQ rfl rfl))
     ·have e := Option.some.inj h25_; subst e
      have e := done_out hs25; subst e
      ((conv=>whnf);repeat((first|apply TT mix|apply sE rfl|apply dG (by kernel_rfl)|fail);(conv=>whnf)))
      exact hn75 _ s23.1 hc74 (weak_gen [0, 1] rfl rfl (sK rfl (by first | exact rowLe_same fun _ _ _ => rfl | (simp; exact rowLe_same fun _ _ _ => rfl)) (sK rfl (rowLe_vals (valsLe.cons (cellsLe_refl rfl) valsLe.nil)) storeLe.nil)) (sQ rfl rfl))
    ·clear hc74 h75
     intro s7 hc78
     ((conv=>whnf);repeat((first|apply TT mix|apply sE rfl|apply dG (by kernel_rfl)|fail);(conv=>whnf)))
     refine bnd hc78 (fun x79 h79 hc78 => ?_)
     refine cut_at (fun s9 : (List Int) => mkF 220 [(0, (.mso 0 p_data_o p_data_n)), (1, (.int .i64 p_a)), (3, (.int .i64 p_b)), (4, (.fn (.func 68) [] [(.mp 1 0 0)])), (18, (.int .i64 (IntKind.wrap .i64 (Int.fdiv (IntKind.wrap .u64 (IntKind.wrap .i64 (p_a + p_b))) 2)))), (20, (.int .i64 s7)), (24, (.int .i64 (IntKind.wrap .i64 ((IntKind.wrap .i64 ((IntKind.wrap .i64 (Int.fdiv (IntKind.wrap .u64 (IntKind.wrap .i64 (p_a + p_b))) 2)) + p_m)) - s7))))] [some ⟨1, 21, (.ints .i32 s9), false, true⟩, some ⟨3, 26, (.vals [(e_api_Norm p_cmp_0)]), false, false⟩]) (fun s9 : (List Int) => m_slices_symMergeCmpFunc_rune_own_K10 p_data_o p_data_n p_a p_m p_b p_cmp_0 rec_ s7 s9 = some r) ?_ ?_
     ·intro Kn79 hn79
      ((conv=>whnf);repeat((first|apply TT mix|apply sE rfl|apply dG (by kernel_rfl)|fail);(conv=>whnf)))
      refine bnd h79 (fun x80 h80 h79 => ?_)
      refine cut_at (fun s19 : Bool => mkF 220 [(0, (.mso 0 p_data_o p_data_n)), (1, (.int .i64 p_a)), (2, (.int .i64 p_m)), (3, (.int .i64 p_b)), (4, (.fn (.func 68) [] [(.mp 1 0 0)])), (18, (.int .i64 (IntKind.wrap .i64 (Int.fdiv (IntKind.wrap .u64 (IntKind.wrap .i64 (p_a + p_b))) 2)))), (20, (.int .i64 s7)), (24, (.int .i64 (IntKind.wrap .i64 ((IntKind.wrap .i64 ((IntKind.wrap .i64 (Int.fdiv (IntKind.wrap .u64 (IntKind.wrap .i64 (p_a + p_b))) 2)) + p_m)) - s7)))), (185, (.bool s19))] [some ⟨1, 21, (.ints .i32 p_data), false, true⟩, some ⟨3, 26, (.vals [(e_api_Norm p_cmp_0)]), false, false⟩]) (fun s19 : Bool => m_slices_symMergeCmpFunc_rune_own_K20 p_data p_data_o p_data_n p_a p_m p_b p_cmp_0 s7 s19 = some x79) ?_ ?_
      ·intro Kn80 hn80
       ((conv=>whnf);repeat((first|apply TT mix|apply sE rfl|apply dG (by kernel_rfl)|fail);(conv=>whnf)))
       refine br_b rfl h80 (fun c81 h80 => ?_) (fun c81 h80 => ?_)
       ·have e := Option.some.inj h80; subst e
        ((conv=>whnf);repeat((first|apply TT mix|apply sE rfl|apply dG (by kernel_rfl)|fail);(conv=>whnf)))
        exact hn80 _ (decide (p_m < (IntKind.wrap .i64 ((IntKind.wrap .i64 ((IntKind.wrap .i64 (Int.fdiv (IntKind.wrap .u64 (IntKind.wrap .i64 (p_a + p_b))) 2)) + p_m)) - s7)))) h79 (weak_gen [0, 1] rfl rfl (sK rfl (by first | exact rowLe_same fun _ _ _ => rfl | (simp; exact rowLe_same fun _ _ _ => rfl)) (sK rfl (rowLe_vals (valsLe.cons (cellsLe_refl rfl) valsLe.nil)) storeLe.nil)) (sQ rfl rfl))
       ·have e := Option.some.inj h80; subst e
        ((conv=>whnf);repeat((first|apply TT mix|apply sE rfl|apply dG (by kernel_rfl)|fail);(conv=>whnf)))
        exact hn80 _ false h79 (weak_gen [0, 1] rfl rfl (sK rfl (by first | exact rowLe_same fun _ _ _ => rfl | (simp; exact rowLe_same fun _ _ _ => rfl)) (sK rfl (rowLe_vals (valsLe.cons (cellsLe_refl rfl) valsLe.nil)) storeLe.nil)) (sQ rfl rfl))
      ·clear h79 h80
       intro s19 hc82
       ((conv=>whnf);repeat((first|apply TT mix|apply sE rfl|apply dG (by kernel_rfl)|fail);(conv=>whnf)))
       refine br_b rfl hc82 (fun c83 hc82 => ?_) (fun c83 hc82 => ?_)
       ·((conv=>whnf);repeat((first|apply TT mix|apply sE rfl|apply dG (by kernel_rfl)|fail);(conv=>whnf)))
        refine bnd hc82 (fun y21 hy21 hc82 => ?_)
        refine own_intro (own_call [0, 1] (c_slices_rotateCmpFunc_rune_own _ _ _ _ _ _ _ _ hy21) rfl (sK rfl (rowLe_ints (by first | rfl | simp)) (sK rfl (rowLe_vals (valsLe.cons (cellsLe_refl rfl) valsLe.nil)) storeLe.nil)) (cellsLe.cons (And.intro rfl (AV.Le.refl _)) (cellsLe.cons (And.intro rfl (AV.Le.refl _)) (cellsLe.cons (And.intro rfl (AV.Le.refl _)) (cellsLe.cons (And.intro rfl (AV.Le.refl _)) (cellsLe.cons (And.intro rfl (AV.Le.refl _)) cellsLe.nil))))) rfl) ?_
        ((conv=>whnf);repeat((first|apply TT mix|apply sE rfl|apply dG (by kernel_rfl)|fail);(conv=>whnf)))
        obtain ⟨p84, hc82⟩ := grdO hc82
        have e := Option.some.inj hc82; subst e
        ((conv=>whnf);repeat((first|apply TT mix|apply sE rfl|apply dG (by kernel_rfl)|fail);(conv=>whnf)))
        exact hn79 _ y21 hc78 (weak_gen [0, 1] rfl rfl (sK rfl (rowLe_ints (by first | rfl | simp)) (sK rfl (rowLe_vals (valsLe.cons (cellsLe_refl rfl) valsLe.nil)) storeLe.nil)) (sQ rfl rfl))
       ·have e := Option.some.inj hc82; subst e
        ((conv=>whnf);repeat((first|apply TT mix|apply sE rfl|apply dG (by kernel_rfl)|fail);(conv=>whnf)))
        exact hn79 _ p_data hc78 (weak_gen [0, 1] rfl rfl (sK rfl (rowLe_ints (by first | rfl | simp)) (sK rfl (rowLe_vals (valsLe.cons (cellsLe_refl rfl) valsLe.nil)) storeLe.nil)) (sQ rfl rfl))
     ·clear hc78 h79
      intro s9 hc85
      ((conv=>whnf);repeat((first|apply TT mix|apply sE rfl|apply dG (by kernel_rfl)|fail);(conv=>whnf)))
      refine bnd hc85 (fun x86 h86 hc85 => ?_)
      refine cut_at (fun s11 : (List Int) => mkF 220 [(0, (.mso 0 p_data_o p_data_n)), (3, (.int .i64 p_b)), (4, (.fn (.func 68) [] [(.mp 1 0 0)])), (18, (.int .i64 (IntKind.wrap .i64 (Int.fdiv (IntKind.wrap .u64 (IntKind.wrap .i64 (p_a + p_b))) 2)))), (24, (.int .i64 (IntKind.wrap .i64 ((IntKind.wrap .i64 ((IntKind.wrap .i64 (Int.fdiv (IntKind.wrap .u64 (IntKind.wrap .i64 (p_a + p_b))) 2)) + p_m)) - s7))))] [some ⟨1, 21, (.ints .i32 s11), false, true⟩, some ⟨3, 26, (.vals [(e_api_Norm p_cmp_0)]), false, false⟩]) (fun s11 : (List Int) => m_slices_symMergeCmpFunc_rune_own_K12 p_data_o p_data_n p_a p_m p_b p_cmp_0 rec_ s7 s11 = some r) ?_ ?_
      ·intro Kn86 hn86
       ((conv=>whnf);repeat((first|apply TT mix|apply sE rfl|apply dG (by kernel_rfl)|fail);(conv=>whnf)))
       refine bnd h86 (fun x87 h87 h86 => ?_)
       refine cut_at (fun s16 : Bool => mkF 220 [(0, (.mso 0 p_data_o p_data_n)), (1, (.int .i64 p_a)), (3, (.int .i64 p_b)), (4, (.fn (.func 68) [] [(.mp 1 0 0)])), (18, (.int .i64 (IntKind.wrap .i64 (Int.fdiv (IntKind.wrap .u64 (IntKind.wrap .i64 (p_a + p_b))) 2)))), (20, (.int .i64 s7)), (24, (.int .i64 (IntKind.wrap .i64 ((IntKind.wrap .i64 ((IntKind.wrap .i64 (Int.fdiv (IntKind.wrap .u64 (IntKind.wrap .i64 (p_a + p_b))) 2)) + p_m)) - s7)))), (199, (.bool s16))] [some ⟨1, 21, (.ints .i32 s9), false, true⟩, some ⟨3, 26, (.vals [(e_api_Norm p_cmp_0)]), false, false⟩]) (fun s16 : Bool => m_slices_symMergeCmpFunc_rune_own_K17 p_data_o p_data_n p_a p_b p_cmp_0 rec_ s7 s9 s16 = some x86) ?_ ?_
       ·intro Kn87 hn87
        ((conv=>whnf);repeat((first|apply TT mix|apply sE rfl|apply dG (by kernel_rfl)|fail);(conv=>whnf)))
        refine br_b rfl h87 (fun c88 h87 => ?_) (fun c88 h87 => ?_)
        ·have e := Option.some.inj h87; subst e
         ((conv=>whnf);repeat((first|apply TT mix|apply sE rfl|apply dG (by kernel_rfl)|fail);(conv=>whnf)))
         exact hn87 _ (decide (s7 < (IntKind.wrap .i64 (Int.fdiv (IntKind.wrap .u64 (IntKind.wrap .i64 (p_a + p_b))) 2)))) h86 (weak_gen [0, 1] rfl rfl (sK rfl (by first | exact rowLe_same fun _ _ _ => rfl | (simp; exact rowLe_same fun _ _ _ => rfl)) (sK rfl (rowLe_vals (valsLe.cons (cellsLe_refl rfl) valsLe.nil)) storeLe.nil)) (sQ rfl rfl))
        ·have e := Option.some.inj h87; subst e
         ((conv=>whnf);repeat((first|apply TT mix|apply sE rfl|apply dG (by kernel_rfl)|fail);(conv=>whnf)))
         exact hn87 _ false h86 (weak_gen [0, 1] rfl rfl (sK rfl (by first | exact rowLe_same fun _ _ _ => rfl | (simp; exact rowLe_same fun _ _ _ => rfl)) (sK rfl (rowLe_vals (valsLe.cons (cellsLe_refl rfl) valsLe.nil)) storeLe.nil)) (sQ rfl rfl))
       ·clear h86 h87
        intro s16 hc89
        ((conv=>whnf);repeat((first|apply TT mix|apply sE rfl|apply dG (by kernel_rfl)|fail);(conv=>whnf)))
        refine br_b rfl hc89 (fun c90 hc89 => ?_) (fun c90 hc89 => ?_)
        ·((conv=>whnf);repeat((first|apply TT mix|apply sE rfl|apply dG (by kernel_rfl)|fail);(conv=>whnf)))
         refine bnd hc89 (fun y18 hy18 hc89 => ?_)
         refine own_intro (own_call [0, 1] (hrec _ _ _ _ _ _ _ _ hy18) rfl (sK rfl (rowLe_ints (by first | rfl | simp)) (sK rfl (rowLe_vals (valsLe.cons (cellsLe_refl rfl) valsLe.nil)) storeLe.nil)) (cellsLe.cons (And.intro rfl (AV.Le.refl _)) (cellsLe.cons (And.intro rfl (AV.Le.refl _)) (cellsLe.cons (And.intro rfl (AV.Le.refl _)) (cellsLe.cons (And.intro rfl (AV.Le.refl _)) (cellsLe.cons (And.intro rfl (AV.Le.refl _)) cellsLe.nil))))) rfl) ?_
         ((conv=>whnf);repeat((first|apply TT mix|apply sE rfl|apply dG (by kernel_rfl)|fail);(conv=>whnf)))
         obtain ⟨p91, hc89⟩ := grdO hc89
         have e := Option.some.inj hc89; subst e
         ((conv=>whnf);repeat((first|apply TT mix|apply sE rfl|apply dG (by kernel_rfl)|fail);(conv=>whnf)))
         exact hn86 _ y18 hc85 (weak_gen [0, 1] rfl rfl (sK rfl (rowLe_ints (by first | rfl | simp)) (sK rfl (rowLe_vals (valsLe.cons (cellsLe_refl rfl) valsLe.nil)) storeLe.nil)) (sQ rfl rfl))
        ·have e := Option.some.inj hc89; subst e
         ((conv=>whnf);repeat((first|apply TT mix|apply sE rfl|apply dG (by kernel_rfl)|fail);(conv=>whnf)))
         exact hn86 _ s9 hc85 (weak_gen [0, 1] rfl rfl (sK rfl (rowLe_ints (by first | rfl | simp)) (sK rfl (rowLe_vals (valsLe.cons (cellsLe_refl rfl) valsLe.nil)) storeLe.nil)) (sQ rfl rfl))
      ·clear hc85 h86
       intro s11 hc92
       ((conv=>whnf);repeat((first|apply TT mix|apply sE rfl|apply dG (by kernel_rfl)|fail);(conv=>whnf)))
       refine bnd hc92 (fun x93 h93 hc92 => ?_)
       refine cut_at (fun s13 : Bool => mkF 220 [(0, (.mso 0 p_data_o p_data_n)), (3, (.int .i64 p_b)), (4, (.fn (.func 68) [] [(.mp 1 0 0)])), (18, (.int .i64 (IntKind.wrap .i64 (Int.fdiv (IntKind.wrap .u64 (IntKind.wrap .i64 (p_a + p_b))) 2)))), (24, (.int .i64 (IntKind.wrap .i64 ((IntKind.wrap .i64 ((IntKind.wrap .i64 (Int.fdiv (IntKind.wrap .u64 (IntKind.wrap .i64 (p_a + p_b))) 2)) + p_m)) - s7)))), (213, (.bool s13))] [some ⟨1, 21, (.ints .i32 s11), false, true⟩, some ⟨3, 26, (.vals [(e_api_Norm p_cmp_0)]), false, false⟩]) (fun s13 : Bool => m_slices_symMergeCmpFunc_rune_own_K14 p_data_o p_data_n p_a p_m p_b p_cmp_0 rec_ s7 s11 s13 = some r) ?_ ?_
       ·intro Kn93 hn93
        ((conv=>whnf);repeat((first|apply TT mix|apply sE rfl|apply dG (by kernel_rfl)|fail);(conv=>whnf)))
        refine br_b rfl h93 (fun c94 h93 => ?_) (fun c94 h93 => ?_)
        ·have e := Option.some.inj h93; subst e
         ((conv=>whnf);repeat((first|apply TT mix|apply sE rfl|apply dG (by kernel_rfl)|fail);(conv=>whnf)))
         exact hn93 _ (decide ((IntKind.wrap .i64 ((IntKind.wrap .i64 ((IntKind.wrap .i64 (Int.fdiv (IntKind.wrap .u64 (IntKind.wrap .i64 (p_a + p_b))) 2)) + p_m)) - s7)) < p_b)) hc92 (weak_gen [0, 1] rfl rfl (sK rfl (by first | exact rowLe_same fun _ _ _ => rfl | (simp; exact rowLe_same fun _ _ _ => rfl)) (sK rfl (rowLe_vals (valsLe.cons (cellsLe_refl rfl) valsLe.nil)) storeLe.nil)) (sQ rfl rfl))
        ·have e := Option.some.inj h93; subst e
         ((conv=>whnf);repeat((first|apply TT mix|apply sE rfl|apply dG (by kernel_rfl)|fail);(conv=>whnf)))
         exact hn93 _ false hc92 (weak_gen [0, 1] rfl rfl (sK rfl (by first | exact rowLe_same fun _ _ _ => rfl | (simp; exact rowLe_same fun _ _ _ => rfl)) (sK rfl (rowLe_vals (valsLe.cons (cellsLe_refl rfl) valsLe.nil)) storeLe.nil)) (sQ rfl rfl))
       ·clear hc92 h93
        intro s13 hc95
        ((conv=>whnf);repeat((first|apply TT mix|apply sE rfl|apply dG (by kernel_rfl)|fail);(conv=>whnf)))
        refine br_b rfl hc95 (fun c96 hc95 => ?_) (fun c96 hc95 => ?_)
        ·((conv=>whnf);repeat((first|apply TT mix|apply sE rfl|apply dG (by kernel_rfl)|fail);(conv=>whnf)))
         refine bnd hc95 (fun y15 hy15 hc95 => ?_)
         refine own_intro (own_call [0, 1] (hrec _ _ _ _ _ _ _ _ hy15) rfl (sK rfl (rowLe_ints (by first | rfl | simp)) (sK rfl (rowLe_vals (valsLe.cons (cellsLe_refl rfl) valsLe.nil)) storeLe.nil)) (cellsLe.cons (And.intro rfl (AV.Le.refl _)) (cellsLe.cons (And.intro rfl (AV.Le.refl _)) (cellsLe.cons (And.intro rfl (AV.Le.refl _)) (cellsLe.cons (And.intro rfl (AV.Le.refl _)) (cellsLe.cons (And.intro rfl (AV.Le.refl _)) cellsLe.nil))))) rfl) ?_
         ((conv=>whnf);repeat((first|apply TT mix|apply sE rfl|apply dG (by kernel_rfl)|fail);(conv=>whnf)))
         obtain ⟨p97, hc95⟩ := grdO hc95
         have e := Option.some.inj hc95; subst e
         ((conv=>whnf);repeat((first|apply TT mix|apply sE rfl|apply dG (by kernel_rfl)|fail);(conv=>whnf)))
         exact Or.inr (Or.inr (weak_gen [0, 1] rfl rfl (sK rfl (rowLe_ints (by first | rfl | simp)) (sK rfl (rowLe_vals (valsLe.cons (cellsLe_refl rfl) valsLe.nil)) storeLe.nil)) (slotsLe.cons (cR rfl rfl) slotsLe.nil)))
        ·have e := Option.some.inj hc95; subst e
         ((conv=>whnf);repeat((first|apply TT mix|apply sE rfl|apply dG (by kernel_rfl)|fail);(conv=>whnf)))
         exact Or.inr (Or.inr (weak_gen [0, 1] rfl rfl (sK rfl (rowLe_ints (by first | rfl | simp)) (sK rfl (rowLe_vals (valsLe.cons (cellsLe_refl rfl) valsLe.nil)) storeLe.nil)) (slotsLe.cons (cR rfl rfl) slotsLe.nil)))
theorem c_slices_symMergeCmpFunc_rune_own_n : ∀ (n : Nat) (p_data : (List Int)) (p_data_o : Nat) (p_data_n : Nat) (p_a : Int) (p_m : Int) (p_b : Int) (p_cmp_0 : T_api_Norm) (r : (List Int)), m_slices_symMergeCmpFunc_rune_own_n n p_data p_data_o p_data_n p_a p_m p_b p_cmp_0 = some r → ContractM 2 pl 83 [(.mso 0 p_data_o p_data_n), (.int .i64 p_a), (.int .i64 p_m), (.int .i64 p_b), (.fn (.func 68) [] [(.mp 1 0 0)])] [some ⟨1, 21, (.ints .i32 p_data), false, true⟩, some ⟨3, 26, (.vals [(e_api_Norm p_cmp_0)]), false, false⟩] (.tup []) [some ⟨1, 21, (.ints .i32 r), false, true⟩, some ⟨3, 26, (.vals [(e_api_Norm p_cmp_0)]), false, false⟩]
 | 0, _, _, _, _, _, _, _, _, h => by cases h
 | n + 1, p_data, p_data_o, p_data_n, p_a, p_m, p_b, p_cmp_0, r, h => c_slices_symMergeCmpFunc_rune_own_body (m_slices_symMergeCmpFunc_rune_own_n n) (c_slices_symMergeCmpFunc_rune_own_n n) p_data p_data_o p_data_n p_a p_m p_b p_cmp_0 r h
theorem c_slices_symMergeCmpFunc_rune_own (p_data : (List Int)) (p_data_o : Nat) (p_data_n : Nat) (p_a : Int) (p_m : Int) (p_b : Int) (p_cmp_0 : T_api_Norm) (r : (List Int)) (h : m_slices_symMergeCmpFunc_rune_own p_data p_data_o p_data_n p_a p_m p_b p_cmp_0 = some r) : ContractM 2 pl 83 [(.mso 0 p_data_o p_data_n), (.int .i64 p_a), (.int .i64 p_m), (.int .i64 p_b), (.fn (.func 68) [] [(.mp 1 0 0)])] [some ⟨1, 21, (.ints .i32 p_data), false, true⟩, some ⟨3, 26, (.vals [(e_api_Norm p_cmp_0)]), false, false⟩] (.tup []) [some ⟨1, 21, (.ints .i32 r), false, true⟩, some ⟨3, 26, (.vals [(e_api_Norm p_cmp_0)]), false, false⟩] := by
 unfold m_slices_symMergeCmpFunc_rune_own at h
 split at h
 ·exact c_slices_symMergeCmpFunc_rune_own_n _ p_data p_data_o p_data_n p_a p_m p_b p_cmp_0 r h
 ·cases h
theorem c_slices_stableCmpFunc_rune_own (p_data : (List Int)) (p_data_o : Nat) (p_data_n : Nat) (p_n : Int) (p_cmp_0 : T_api_Norm) (r : (List Int)) (h : m_slices_stableCmpFunc_rune_own p_data p_data_o p_data_n p_n p_cmp_0 = some r) : ContractM 2 pl 76 [(.mso 0 p_data_o p_data_n), (.int .i64 p_n), (.fn (.func 68) [] [(.mp 1 0 0)])] [some ⟨1, 21, (.ints .i32 p_data), false, true⟩, some ⟨3, 26, (.vals [(e_api_Norm p_cmp_0)]), false, false⟩] (.tup []) [some ⟨1, 21, (.ints .i32 r), false, true⟩, some ⟨3, 26, (.vals [(e_api_Norm p_cmp_0)]), false, false⟩] := by
 refine contract_own 2 (.t false .z (.t false .z (.t true .z (.t false .z (.t false (.t false (.t false .z (.t false (.t false .z (.t true .z .z)) .z)) .z) .z))))) rfl Tryz.func76 rfl (by kernel_rfl) ?_
 ((conv=>whnf);repeat((first|apply TT mix|apply sE rfl|apply dG (by kernel_rfl)|fail);(conv=>whnf)))
 refine bnd h (fun x24 h24 h => ?_)
 refine cut_at (fun s1 : (List Int) × Int => mkF 63 [(0, (.mso 0 p_data_o p_data_n)), (1, (.int .i64 p_n)), (2, (.fn (.func 68) [] [(.mp 1 0 0)])), (6, (.int .i64 (20 : Int))), (7, (.int .i64 s1.2))] [some ⟨1, 21, (.ints .i32 s1.1), false, true⟩, some ⟨3, 26, (.vals [(e_api_Norm p_cmp_0)]), false, false⟩]) (fun s1 : (List Int) × Int => m_slices_stableCmpFunc_rune_own_K2 p_data_o p_data_n p_n p_cmp_0 s1 = some r) ?_ ?_
 ·intro Kn24 hn24
  ((conv=>whnf);repeat((first|apply TT mix|apply sE rfl|apply dG (by kernel_rfl)|fail);(conv=>whnf)))
  refine loop_iter (fun s19 : (List Int) × Int × Int => mkF 63 [(0, (.mso 0 p_data_o p_data_n)), (1, (.int .i64 p_n)), (2, (.fn (.func 68) [] [(.mp 1 0 0)])), (6, (.int .i64 (20 : Int))), (7, (.int .i64 s19.2.1)), (8, (.int .i64 s19.2.2))] [some ⟨1, 21, (.ints .i32 s19.1), false, true⟩, some ⟨3, 26, (.vals [(e_api_Norm p_cmp_0)]), false, false⟩]) h24 (weak_gen [0, 1] rfl rfl (sK rfl (rowLe_ints (by first | rfl | simp)) (sK rfl (rowLe_vals (valsLe.cons (cellsLe_refl rfl) valsLe.nil)) storeLe.nil)) (sQ rfl rfl)) ?_
  intro k21 s19 st21 Kn21 hn21 h21_ hs21
  ((conv=>whnf);repeat((first|apply TT mix|apply sE rfl|apply dG (by kernel_rfl)|fail);(conv=>whnf)))
  refine br_b rfl h21_ (fun c25 h21_ => ?_) (fun c25 h21_ => ?_)
  ·((conv=>whnf);repeat((first|apply TT mix|apply sE rfl|apply dG (by kernel_rfl)|fail);(conv=>whnf)))
   refine bnd h21_ (fun y22 hy22 h21_ => ?_)
   refine own_intro (own_call [0, 1] (c_slices_insertionSortCmpFunc_rune_own _ _ _ _ _ _ _ hy22) rfl (sK rfl (rowLe_ints (by first | rfl | simp)) (sK rfl (rowLe_vals (valsLe.cons (cellsLe_refl rfl) valsLe.nil)) storeLe.nil)) (cellsLe.cons (And.intro rfl (AV.Le.refl _)) (cellsLe.cons (And.intro rfl (AV.Le.refl _)) (cellsLe.cons (And.intro rfl (AV.Le.refl _)) (cellsLe.cons (And.intro rfl (AV.Le.refl _)) cellsLe.nil)))) rfl) ?_
   ((conv=>whnf);repeat((first|apply TT mix|apply sE rfl|apply dG (by kernel_rfl)|fail);(conv=>whnf)))
   obtain ⟨p26, h21_⟩ := grdO h21_
   have e := Option.some.inj h21_; subst e
   ((conv=>whnf);repeat((first|apply TT mix|apply sE rfl|apply dG (by kernel_rfl)|fail);(conv=>whnf)))
   exact hn21 _ (y22, s19.2.2, (IntKind.wrap .i64 (s19.2.2 + (20 : Int)))) hs21 (weak_gen [0, 1] rfl rfl (sK rfl (rowLe_ints (by first | rfl | simp)) (sK rfl (rowLe_vals (valsLe.cons (cellsLe_refl rfl) valsLe.nil)) storeLe.nil)) (sQ rfl rfl))
  ·have e := Option.some.inj h21_; subst e
   have e := done_out hs21; subst e
   ((conv=>whnf);repeat((first|apply TT mix|apply sE rfl|apply dG (by kernel_rfl)|fail);(conv=>whnf)))
   exact hn24 _ (s19.1, s19.2.1) h (weak_gen [0, 1] rfl rfl (sK rfl (rowLe_ints (by first | rfl | simp)) (sK rfl (rowLe_vals (valsLe.cons (cellsLe_refl rfl) valsLe.nil)) storeLe.nil)) (sQ rfl rfl))
 ·clear h h24
  intro s1 hc27
  ((conv=>whnf);repeat((first|apply TT mix|apply sE rfl|apply dG (by kernel_rfl)|fail);(conv=>whnf)))
  refine bnd hc27 (fun y3 hy3 hc27 => ?_)
  refine own_intro (own_call [0, 1] (c_slices_insertionSortCmpFunc_rune_own _ _ _ _ _ _ _ hy3) rfl (sK rfl (rowLe_ints (by first | rfl | simp)) (sK rfl (rowLe_vals (valsLe.cons (cellsLe_refl rfl) valsLe.nil)) storeLe.nil)) (cellsLe.cons (And.intro rfl (AV.Le.refl _)) (cellsLe.cons (And.intro rfl (AV.Le.refl _)) (cellsLe.cons (And.intro rfl (AV.Le.refl _)) (cellsLe.cons (And.intro rfl (AV.Le.refl _)) cellsLe.nil)))) rfl) ?_
  ((conv=>whnf);repeat((first|apply TT mix|apply sE rfl|apply dG (by kernel_rfl)|fail);(conv=>whnf)))
  obtain ⟨p28, hc27⟩ := grdO hc27
  ((conv=>whnf);repeat((first|apply TT mix|apply sE rfl|apply dG (by kernel_rfl)|fail);(conv=>whnf)))
  refine bnd hc27 (fun x7 hx7 hc27 => ?_)
  refine loop_iter (fun s5 : (List Int) × Int => mkF 63 [(0, (.mso 0 p_data_o p_data_n)), (1, (.int .i64 p_n)), (2, (.fn (.func 68) [] [(.mp 1 0 0)])), (6, (.int .i64 s5.2))] [some ⟨1, 21, (.ints .i32 s5.1), false, true⟩, some ⟨3, 26, (.vals [(e_api_Norm p_cmp_0)]), false, false⟩]) hx7 (weak_gen [0, 1] rfl rfl (sK rfl (rowLe_ints (by first | rfl | simp)) (sK rfl (rowLe_vals (valsLe.cons (cellsLe_refl rfl) valsLe.nil)) storeLe.nil)) (sQ rfl rfl)) ?_
  intro k7 s5 st7 Kn7 hn7 h7 hs7
  ((conv=>whnf);repeat((first|apply TT mix|apply sE rfl|apply dG (by kernel_rfl)|fail);(conv=>whnf)))
  refine br_b rfl h7 (fun c29 h7 => ?_) (fun c29 h7 => ?_)
  ·((conv=>whnf);repeat((first|apply TT mix|apply sE rfl|apply dG (by kernel_rfl)|fail);(conv=>whnf)))
   refine bnd h7 (fun x30 h30 h7 => ?_)
   refine cut_at (fun s8 : (List Int) × Int => mkF 63 [(0, (.mso 0 p_data_o p_data_n)), (1, (.int .i64 p_n)), (2, (.fn (.func 68) [] [(.mp 1 0 0)])), (6, (.int .i64 s5.2)), (7, (.int .i64 s8.2))] [some ⟨1, 21, (.ints .i32 s8.1), false, true⟩, some ⟨3, 26, (.vals [(e_api_Norm p_cmp_0)]), false, false⟩]) (fun s8 : (List Int) × Int => m_slices_stableCmpFunc_rune_own_K9 p_data_o p_data_n p_n p_cmp_0 s5 s8 = some st7) ?_ ?_
   ·intro Kn30 hn30
    ((conv=>whnf);repeat((first|apply TT mix|apply sE rfl|apply dG (by kernel_rfl)|fail);(conv=>whnf)))
    refine loop_iter (fun s12 : (List Int) × Int × Int => mkF 63 [(0, (.mso 0 p_data_o p_data_n)), (1, (.int .i64 p_n)), (2, (.fn (.func 68) [] [(.mp 1 0 0)])), (6, (.int .i64 s5.2)), (7, (.int .i64 s12.2.1)), (8, (.int .i64 s12.2.2))] [some ⟨1, 21, (.ints .i32 s12.1), false, true⟩, some ⟨3, 26, (.vals [(e_api_Norm p_cmp_0)]), false, false⟩]) h30 (weak_gen [0, 1] rfl rfl (sK rfl (rowLe_ints (by first | rfl | simp)) (sK rfl (rowLe_vals (valsLe.cons (cellsLe_refl rfl) valsLe.nil)) storeLe.nil)) (sQ rfl rfl)) ?_
    intro k14 s12 st14 Kn14 hn14 h14_ hs14
    ((conv=>whnf);repeat((first|apply TT mix|apply sE rfl|apply dG (by kernel_rfl)|fail);(conv=>whnf)))
    refine br_b rfl h14_ (fun c31 h14_ => ?_) (fun c31 h14_ => ?_)
    ·((conv=>whnf);repeat((first|apply TT mix|apply sE rfl|apply dG (by kernel_rfl)|fail);(conv=>whnf)))
     refine bnd h14_ (fun y15 hy15 h14_ => ?_)
     refine own_intro (own_call [0, 1] (c_slices_symMergeCmpFunc_rune_own _ _ _ _ _ _ _ _ hy15) rfl (sK rfl (rowLe_ints (by first | rfl | simp)) (sK rfl (rowLe_vals (valsLe.cons (cellsLe_refl rfl) valsLe.nil)) storeLe.nil)) (cellsLe.cons (And.intro rfl (AV.Le.refl _)) (cellsLe.cons (And.intro rfl (AV.Le.refl _)) (cellsLe.cons (And.intro rfl (AV.Le.refl _)) (cellsLe.cons (And.intro rfl (AV.Le.refl _)) (cellsLe.cons (And.intro rfl (AV.Le.refl _)) cellsLe.nil))))) rfl) ?_
     ((conv=>whnf);repeat((first|apply TT mix|apply sE rfl|apply dG (by kernel_rfl)|fail);(conv=>whnf)))
     obtain ⟨p32, h14_⟩ := grdO h14_
     have e := Option.some.inj h14_; subst e
     ((conv=>whnf);repeat((first|apply TT mix|apply sE rfl|apply dG (by kernel_rfl)|fail);(conv=>whnf)))
     exact hn14 _ (y15, s12.2.2, (IntKind.wrap .i64 (s12.2.2 + (IntKind.wrap .i64 ((2 : Int) * s5.2))))) hs14 (weak_gen [0, 1] rfl rfl (sK rfl (rowLe_ints (by first | rfl | simp)) (sK rfl (rowLe_vals (valsLe.cons (cellsLe_refl rfl) valsLe.nil)) storeLe.nil)) (sQ rfl rfl))
    ·have e := Option.some.inj h14_; subst e
     have e := done_out hs14; subst e
     ((conv=>whnf);repeat((first|apply TT mix|apply sE rfl|apply dG (by kernel_rfl)|fail);(conv=>whnf)))
     exact hn30 _ (s12.1, s12.2.1) h7 (weak_gen [0, 1] rfl rfl (sK rfl (rowLe_ints (by first | rfl | simp)) (sK rfl (rowLe_vals (valsLe.cons (cellsLe_refl rfl) valsLe.nil)) storeLe.nil)) (sQ rfl rfl))
   ·clear h7 h30
    intro s8 hc33
    ((conv=>whnf);repeat((first|apply TT mix|apply sE rfl|apply dG (by kernel_rfl)|fail);(conv=>whnf)))
    refine br_b rfl hc33 (fun c34 hc33 => ?_) (fun c34 hc33 => ?_)
    ·((conv=>whnf);repeat((first|apply TT mix|apply sE rfl|apply dG (by kernel_rfl)|fail);(conv=>whnf)))
     refine bnd hc33 (fun y10 hy10 hc33 => ?_)
     refine own_intro (own_call [0, 1] (c_slices_symMergeCmpFunc_rune_own _ _ _ _ _ _ _ _ hy10) rfl (sK rfl (rowLe_ints (by first | rfl | simp)) (sK rfl (rowLe_vals (valsLe.cons (cellsLe_refl rfl) valsLe.nil)) storeLe.nil)) (cellsLe.cons (And.intro rfl (AV.Le.refl _)) (cellsLe.cons (And.intro rfl (AV.Le.refl _)) (cellsLe.cons (And.intro rfl (AV.Le.refl _)) (cellsLe.cons (And.intro rfl (AV.Le.refl _)) (cellsLe.cons (And.intro rfl (AV.Le.refl _)) cellsLe.nil))))) rfl) ?_
     ((conv=>whnf);repeat((first|apply TT mix|apply sE rfl|apply dG (by kernel_rfl)|fail);(conv=>whnf)))
     obtain ⟨p35, hc33⟩ := grdO hc33
     have e := Option.some.inj hc33; subst e
     ((conv=>whnf);repeat((first|apply TT mix|apply sE rfl|apply dG (by kernel_rfl)|fail);(conv=>whnf)))
     exact hn7 _ (y10, (IntKind.wrap .i64 (s5.2 * (2 : Int)))) hs7 (weak_gen [0, 1] rfl rfl (sK rfl (rowLe_ints (by first | rfl | simp)) (sK rfl (rowLe_vals (valsLe.cons (cellsLe_refl rfl) valsLe.nil)) storeLe.nil)) (sQ rfl rfl))
    ·have e := Option.some.inj hc33; subst e
     ((conv=>whnf);repeat((first|apply TT mix|apply sE rfl|apply dG (by kernel_rfl)|fail);(conv=>whnf)))
     exact hn7 _ (s8.1, (IntKind.wrap .i64 (s5.2 * (2 : Int)))) hs7 (weak_gen [0, 1] rfl rfl (sK rfl (rowLe_ints (by first | rfl | simp)) (sK rfl (rowLe_vals (valsLe.cons (cellsLe_refl rfl) valsLe.nil)) storeLe.nil)) (sQ rfl rfl))
  ·have e := Option.some.inj h7; subst e
   have e := done_out hs7; subst e
   have e := Option.some.inj hc27; subst e
   ((conv=>whnf);repeat((first|apply TT mix|apply sE rfl|apply dG (by kernel_rfl)|fail);(conv=>whnf)))
   exact Or.inr (Or.inr (weak_gen [0, 1] rfl rfl (sK rfl (rowLe_ints (by first | rfl | simp)) (sK rfl (rowLe_vals (valsLe.cons (cellsLe_refl rfl) valsLe.nil)) storeLe.nil)) (slotsLe.cons (cR rfl rfl) slotsLe.nil)))
theorem c_slices_SortStableFunc_rune_rune_own (p_x : (List Int)) (p_x_o : Nat) (p_x_n : Nat) (p_cmp_0 : T_api_Norm) (r : (List Int)) (h : m_slices_SortStableFunc_rune_rune_own p_x p_x_o p_x_n p_cmp_0 = some r) : ContractM 2 pl 67 [(.mso 0 p_x_o p_x_n), (.fn (.func 68) [] [(.mp 1 0 0)])] [some ⟨1, 21, (.ints .i32 p_x), false, true⟩, some ⟨3, 26, (.vals [(e_api_Norm p_cmp_0)]), false, false⟩] (.tup []) [some ⟨1, 21, (.ints .i32 r), false, true⟩, some ⟨3, 26, (.vals [(e_api_Norm p_cmp_0)]), false, false⟩] := by
 refine contract_own 2 .z rfl Tryz.func67 rfl (by kernel_rfl) ?_
 ((conv=>whnf);repeat((first|apply TT mix|apply sE rfl|apply dG (by kernel_rfl)|fail);(conv=>whnf)))
 refine bnd h (fun y1 hy1 h => ?_)
 refine own_intro (own_call [0, 1] (c_slices_stableCmpFunc_rune_own _ _ _ _ _ _ hy1) rfl (sK rfl (rowLe_ints (by first | rfl | simp)) (sK rfl (rowLe_vals (valsLe.cons (cellsLe_refl rfl) valsLe.nil)) storeLe.nil)) (cellsLe.cons (And.intro rfl (AV.Le.refl _)) (cellsLe.cons (And.intro rfl (AV.Le.refl _)) (cellsLe.cons (And.intro rfl (AV.Le.refl _)) cellsLe.nil))) rfl) ?_
 ((conv=>whnf);repeat((first|apply TT mix|apply sE rfl|apply dG (by kernel_rfl)|fail);(conv=>whnf)))
 obtain ⟨p2, h⟩ := grdO h
 have e := Option.some.inj h; subst e
 ((conv=>whnf);repeat((first|apply TT mix|apply sE rfl|apply dG (by kernel_rfl)|fail);(conv=>whnf)))
 exact Or.inr (Or.inr (weak_gen [0, 1] rfl rfl (sK rfl (rowLe_ints (by first | rfl | simp)) (sK rfl (rowLe_vals (valsLe.cons (cellsLe_refl rfl) valsLe.nil)) storeLe.nil)) (slotsLe.cons (cR rfl rfl) slotsLe.nil)))
theorem c_decomp_Order (p_t : T_api_Norm) (p_l : (List Int)) (r : (List Int)) (h : m_decomp_Order p_t p_l = some r) : Contract pl 45 [(e_api_Norm p_t), (e_L_i32 p_l)] [] (e_L_i32 r) [] := by
 refine contract_of (.t false .z (.t false .z (.t true (.t false .z (.t false (.t false (.t false .z (.t false (.t false .z (.t true (.t false (.t false (.t false (.t true .z .z) .z) .z) .z) .z)) .z)) .z) .z)) .z))) Tryz.func45 rfl (by kernel_rfl) ?_
 ((conv=>whnf);repeat((first|apply TT mix|apply sE rfl|apply dG (by kernel_rfl)|fail);(conv=>whnf)))
 refine bnd h (fun y1 hy1 h => ?_)
 refine Or.inr (own_intro (own_call [] (c_slices_Clone_rune_rune_own _ _ hy1) rfl storeLe.nil (cellsLe.cons (And.intro rfl (AV.Le.refl _)) cellsLe.nil) rfl) ?_)
 ((conv=>whnf);repeat((first|apply TT mix|apply sE rfl|apply dG (by kernel_rfl)|fail);(conv=>whnf)))
 refine bnd h (fun x20 h20 h => ?_)
 refine cut_at (fun s2 : (List Int) => mkF 39 [(5, (.ms 0 s2.length))] [some ⟨1, 21, (.ints .i32 s2), false, true⟩]) (fun s2 : (List Int) => some s2 = some r) ?_ ?_
 ·intro Kn20 hn20
  ((conv=>whnf);repeat((first|apply TT mix|apply sE rfl|apply dG (by kernel_rfl)|fail);(conv=>whnf)))
  refine loop_iter (fun s5 : (List Int) × Int => mkF 39 [(2, (.mp 0 0 0)), (5, (.ms 1 s5.1.length)), (6, (.int .i64 s5.2))] [some ⟨3, 26, (.vals [(e_api_Norm p_t)]), false, false⟩, some ⟨1, 21, (.ints .i32 s5.1), false, true⟩]) h20 (weak_gen [0, 1] rfl rfl (sK rfl (rowLe_vals (valsLe.cons (cellsLe_refl rfl) valsLe.nil)) (sK rfl (rowLe_ints (by first | rfl | simp)) storeLe.nil)) (slotsLe.cons (cR rfl rfl) (slotsLe.cons (And.intro rfl (AV.Le.of_eq (congrArg (AV.ms _) (by first | rfl | omega | (simp; omega) | simp)))) (slotsLe.cons (cR rfl rfl) slotsLe.nil)))) ?_
  intro k7 s5 st7 Kn7 hn7 h7_ hs7
  ((conv=>whnf);repeat((first|apply TT mix|apply sE rfl|apply dG (by kernel_rfl)|fail);(conv=>whnf)))
  refine br_b rfl h7_ (fun c21 h7_ => ?_) (fun c21 h7_ => ?_)
  ·((conv=>whnf);repeat((first|apply TT mix|apply sE rfl|apply dG (by kernel_rfl)|fail);(conv=>whnf)))
   refine bnd h7_ (fun x22 h22 h7_ => ?_)
   refine cut_at (fun s8 : Int => mkF 39 [(2, (.mp 0 0 0)), (5, (.ms 1 s5.1.length)), (6, (.int .i64 s5.2)), (7, (.int .i64 s8))] [some ⟨3, 26, (.vals [(e_api_Norm p_t)]), false, false⟩, some ⟨1, 21, (.ints .i32 s5.1), false, true⟩]) (fun s8 : Int => m_decomp_Order_K9 p_t s5 s8 = some st7) ?_ ?_
   ·intro Kn22 hn22
    ((conv=>whnf);repeat((first|apply TT mix|apply sE rfl|apply dG (by kernel_rfl)|fail);(conv=>whnf)))
    refine loop_iter (fun s12 : Int => mkF 39 [(2, (.mp 0 0 0)), (5, (.ms 1 s5.1.length)), (6, (.int .i64 s5.2)), (7, (.int .i64 s12))] [some ⟨3, 26, (.vals [(e_api_Norm p_t)]), false, false⟩, some ⟨1, 21, (.ints .i32 s5.1), false, true⟩]) h22 (weak_gen [0, 1] rfl rfl (sK rfl (rowLe_vals (valsLe.cons (cellsLe_refl rfl) valsLe.nil)) (sK rfl (by first | exact rowLe_same fun _ _ _ => rfl | (simp; exact rowLe_same fun _ _ _ => rfl)) storeLe.nil)) (slotsLe.cons (cR rfl rfl) (slotsLe.cons (And.intro rfl (AV.Le.of_eq (congrArg (AV.ms _) (by first | rfl | omega | (simp; omega) | simp)))) (slotsLe.cons (cR rfl rfl) (slotsLe.cons (cR rfl rfl) slotsLe.nil))))) ?_
    intro k14 s12 st14 Kn14 hn14 h14_ hs14
    ((conv=>whnf);repeat((first|apply TT mix|apply sE rfl|apply dG (by kernel_rfl)|fail);(conv=>whnf)))
    refine bnd h14_ (fun x23 h23 h14_ => ?_)
    refine cut_at (fun s15 : Bool => mkF 39 [(2, (.mp 0 0 0)), (5, (.ms 1 s5.1.length)), (6, (.int .i64 s5.2)), (7, (.int .i64 s12)), (27, (.bool s15))] [some ⟨3, 26, (.vals [(e_api_Norm p_t)]), false, false⟩, some ⟨1, 21, (.ints .i32 s5.1), false, true⟩]) (fun s15 : Bool => m_decomp_Order_K16 s12 s15 = some st14) ?_ ?_
    ·intro Kn23 hn23
     ((conv=>whnf);repeat((first|apply TT mix|apply sE rfl|apply dG (by kernel_rfl)|fail);(conv=>whnf)))
     refine br_b rfl h23 (fun c24 h23 => ?_) (fun c24 h23 => ?_)
     ·((conv=>whnf);repeat((first|apply TT mix|apply sE rfl|apply dG (by kernel_rfl)|fail);(conv=>whnf)))
      refine grd2 rfl rfl h23 (fun h23 => ?_)
      ((conv=>whnf);repeat((first|apply TT mix|apply sE rfl|apply dG (by kernel_rfl)|fail);(conv=>whnf)))
      refine bnd h23 (fun y17 hy17 h23 => ?_)
      refine Or.inl ⟨_, c_decomp_Class _ _ _ hy17, rfl, ?_⟩
      have e := Option.some.inj h23; subst e
      ((conv=>whnf);repeat((first|apply TT mix|apply sE rfl|apply dG (by kernel_rfl)|fail);(conv=>whnf)))
      exact hn23 _ (decide (y17 > (0 : Int))) h14_ (weak_gen [0, 1] rfl rfl (sK rfl (rowLe_vals (valsLe.cons (cellsLe_refl rfl) valsLe.nil)) (sK rfl (by first | exact rowLe_same fun _ _ _ => rfl | (simp; exact rowLe_same fun _ _ _ => rfl)) storeLe.nil)) (slotsLe.cons (cR rfl rfl) (slotsLe.cons (And.intro rfl (AV.Le.of_eq (congrArg (AV.ms _) (by first | rfl | omega | (simp; omega) | simp)))) (slotsLe.cons (cR rfl rfl) (slotsLe.cons (cR rfl rfl) (slotsLe.cons (cR rfl rfl) slotsLe.nil))))))
     ·have e := Option.some.inj h23; subst e
      ((conv=>whnf);repeat((first|apply TT mix|apply sE rfl|apply dG (by kernel_rfl)|fail);(conv=>whnf)))
      exact hn23 _ false h14_ (weak_gen [0, 1] rfl rfl (sK rfl (rowLe_vals (valsLe.cons (cellsLe_refl rfl) valsLe.nil)) (sK rfl (by first | exact rowLe_same fun _ _ _ => rfl | (simp; exact rowLe_same fun _ _ _ => rfl)) storeLe.nil)) (slotsLe.cons (cR rfl rfl) (slotsLe.cons (And.intro rfl (AV.Le.of_eq (congrArg (AV.ms _) (by first | rfl | omega | (simp; omega) | simp)))) (slotsLe.cons (cR rfl rfl) (slotsLe.cons (cR rfl rfl) (slotsLe.cons (cR rfl rfl) slotsLe.nil))))))
    ·clear h14_ h23
     intro s15 hc25
     ((conv=>whnf);repeat((first|apply TT mix|apply sE rfl|apply dG (by kernel_rfl)|fail);(conv=>whnf)))
     refine br_b rfl hc25 (fun c26 hc25 => ?_) (fun c26 hc25 => ?_)
     ·have e := Option.some.inj hc25; subst e
      ((conv=>whnf);repeat((first|apply TT mix|apply sE rfl|apply dG (by kernel_rfl)|fail);(conv=>whnf)))
      exact hn14 _ (IntKind.wrap .i64 (s12 + (1 : Int))) hs14 (weak_gen [0, 1] rfl rfl (sK rfl (rowLe_vals (valsLe.cons (cellsLe_refl rfl) valsLe.nil)) (sK rfl (by first | exact rowLe_same fun _ _ _ => rfl | (simp; exact rowLe_same fun _ _ _ => rfl)) storeLe.nil)) (slotsLe.cons (cR rfl rfl) (slotsLe.cons (And.intro rfl (AV.Le.of_eq (congrArg (AV.ms _) (by first | rfl | omega | (simp; omega) | simp)))) (slotsLe.cons (cR rfl rfl) (slotsLe.cons (cR rfl rfl) slotsLe.nil)))))
     ·have e := Option.some.inj hc25; subst e
      have e := done_out hs14; subst e
      ((conv=>whnf);repeat((first|apply TT mix|apply sE rfl|apply dG (by kernel_rfl)|fail);(conv=>whnf)))
      exact hn22 _ s12 h7_ (weak_gen [0, 1] rfl rfl (sK rfl (rowLe_vals (valsLe.cons (cellsLe_refl rfl) valsLe.nil)) (sK rfl (by first | exact rowLe_same fun _ _ _ => rfl | (simp; exact rowLe_same fun _ _ _ => rfl)) storeLe.nil)) (slotsLe.cons (cR rfl rfl) (slotsLe.cons (And.intro rfl (AV.Le.of_eq (congrArg (AV.ms _) (by first | rfl | omega | (simp; omega) | simp)))) (slotsLe.cons (cR rfl rfl) (slotsLe.cons (cR rfl rfl) slotsLe.nil)))))
   ·clear h7_ h22
    intro s8 hc27
    ((conv=>whnf);repeat((first|apply TT mix|apply sE rfl|apply dG (by kernel_rfl)|fail);(conv=>whnf)))
    have ghc27 := gOf hc27
    refine grd3 rfl rfl rfl hc27 (fun hc27 => ?_)
    ((conv=>whnf);repeat((first|apply TT mix|apply sE rfl|apply dG (by kernel_rfl)|fail);(conv=>whnf)))
    refine bnd hc27 (fun y10 hy10 hc27 => ?_)
    refine own_intro (own_call [1, 0] (c_slices_SortStableFunc_rune_rune_own _ _ _ _ _ hy10) rfl (sK rfl (rowLe_ints (by first | rfl | simp)) (sK rfl (rowLe_vals (valsLe.cons (cellsLe_refl rfl) valsLe.nil)) storeLe.nil)) (cellsLe.cons (And.intro rfl (AV.Le.refl _)) (cellsLe.cons (And.intro rfl (AV.Le.refl _)) cellsLe.nil)) rfl) ?_
    ((conv=>whnf);repeat((first|apply TT mix|apply sE rfl|apply dG (by kernel_rfl)|fail);(conv=>whnf)))
    obtain ⟨p28, hc27⟩ := grdO hc27
    have e := Option.some.inj hc27; subst e
    ((conv=>whnf);repeat((first|apply TT mix|apply sE rfl|apply dG (by kernel_rfl)|fail);(conv=>whnf)))
    exact hn7 _ (y10, (IntKind.wrap .i64 (s8 + (1 : Int)))) hs7 (weak_gen [0, 1] rfl rfl (sK rfl (rowLe_vals (valsLe.cons (cellsLe_refl rfl) valsLe.nil)) (sK rfl (rowLe_ints (by first | rfl | simp)) storeLe.nil)) (slotsLe.cons (cR rfl rfl) (slotsLe.cons (And.intro rfl (AV.Le.of_eq (congrArg (AV.ms _) (by first | rfl | omega | (simp; omega) | simp)))) (slotsLe.cons (cR rfl rfl) slotsLe.nil))))
  ·have e := Option.some.inj h7_; subst e
   have e := done_out hs7; subst e
   ((conv=>whnf);repeat((first|apply TT mix|apply sE rfl|apply dG (by kernel_rfl)|fail);(conv=>whnf)))
   exact hn20 _ s5.1 h (weak_gen [1] rfl rfl (sK rfl (rowLe_ints (by first | rfl | simp)) storeLe.nil) (slotsLe.cons (And.intro rfl (AV.Le.of_eq (congrArg (AV.ms _) (by first | rfl | omega | (simp; omega) | simp)))) slotsLe.nil))
 ·clear h h20
  intro s2 hc29
  have e := Option.some.inj hc29; subst e
  ((conv=>whnf);repeat((first|apply TT mix|apply sE rfl|apply dG (by kernel_rfl)|fail);(conv=>whnf)))
  exact And.intro (AV.Le.refl _) rfl
theorem c_decomp_All (p_t : T_api_Norm) (p_l : (List Int)) (r : (List Int)) (h : m_decomp_All p_t p_l = some r) : Contract pl 22 [(e_api_Norm p_t), (e_L_i32 p_l)] [] (e_L_i32 r) [] := by
 refine contract_of (.t false .z (.t false .z (.t true .z .z))) Tryz.func22 rfl (by kernel_rfl) ?_
 ((conv=>whnf);repeat((first|apply TT mix|apply sE rfl|apply dG (by kernel_rfl)|fail);(conv=>whnf)))
 refine bnd h (fun x10 h10 h => ?_)
 refine cut_at (fun s1 : (List Int) => mkF 23 [(2, (.mp 0 0 0)), (5, (.ms 1 s1.length))] [some ⟨3, 26, (.vals [(e_api_Norm p_t)]), false, false⟩, some ⟨1, 21, (.ints .i32 s1), false, true⟩]) (fun s1 : (List Int) => m_decomp_All_K2 p_t s1 = some r) ?_ ?_
 ·intro Kn10 hn10
  ((conv=>whnf);repeat((first|apply TT mix|apply sE rfl|apply dG (by kernel_rfl)|fail);(conv=>whnf)))
  refine loop_iter (fun s5 : (List Int) × Int => mkF 23 [(2, (.mp 0 0 0)), (5, (.ms 1 s5.1.length)), (8, (e_L_i32 p_l)), (9, (.int .i64 ((p_l.length : Nat) : Int))), (10, (.int .i64 s5.2))] [some ⟨3, 26, (.vals [(e_api_Norm p_t)]), false, false⟩, some ⟨1, 21, (.ints .i32 s5.1), false, true⟩]) h10 (weak_trans (weak_nil 5 1 21 (.ints .i32 []) _ rfl rfl trivial (Nat.zero_le _)) (weak_gen [0, 1] rfl rfl (sK rfl (rowLe_vals (valsLe.cons (cellsLe_refl rfl) valsLe.nil)) (sK rfl (rowLe_ints (by first | rfl | simp)) storeLe.nil)) (sQ rfl rfl))) ?_
  intro k7 s5 st7 Kn7 hn7 h7_ hs7
  ((conv=>whnf);repeat((first|apply TT mix|apply sE rfl|apply dG (by kernel_rfl)|fail);(conv=>whnf)))
  refine br_b rfl h7_ (fun c11 h7_ => ?_) (fun c11 h7_ => ?_)
  ·((conv=>whnf);repeat((first|apply TT mix|apply sE rfl|apply dG (by kernel_rfl)|fail);(conv=>whnf)))
   refine grd2 rfl rfl h7_ (fun h7_ => ?_)
   ((conv=>whnf);repeat((first|apply TT mix|apply sE rfl|apply dG (by kernel_rfl)|fail);(conv=>whnf)))
   refine bnd h7_ (fun y8 hy8 h7_ => ?_)
   refine Or.inl ⟨_, c_decomp_One _ _ _ hy8, rfl, ?_⟩
   ((conv=>whnf);repeat((first|apply TT mix|apply sE rfl|apply dG (by kernel_rfl)|fail);(conv=>whnf)))
   obtain ⟨p12, h7_⟩ := grdO h7_
   refine ⟨[], y8.length, (.ints .i32 y8), ⟨rfl, rfl, fun j hj => rfl⟩, trivial, fun j hj => rfl, ?_⟩
   conv => whnf
   refine ⟨by simp [Row.len]; try omega, p12, by omega, ?_⟩
   have e := Option.some.inj h7_; subst e
   ((conv=>whnf);repeat((first|apply TT mix|apply sE rfl|apply dG (by kernel_rfl)|fail);(conv=>whnf)))
   exact hn7 _ ((s5.1 ++ y8), (IntKind.wrap .i64 (s5.2 + (1 : Int)))) hs7 (weak_gen [0, 2] rfl rfl (sK rfl (rowLe_vals (valsLe.cons (cellsLe_refl rfl) valsLe.nil)) (sK rfl (rowLe_ints (by first | rfl | simp)) storeLe.nil)) (slotsLe.cons (cR rfl rfl) (slotsLe.cons (And.intro rfl (AV.Le.of_eq (congrArg (AV.ms _) (by first | rfl | omega | (simp; omega) | simp)))) (slotsLe.cons (cR rfl rfl) (slotsLe.cons (cR rfl rfl) (slotsLe.cons (cR rfl rfl) slotsLe.nil))))))
  ·have e := Option.some.inj h7_; subst e
   have e := done_out hs7; subst e
   ((conv=>whnf);repeat((first|apply TT mix|apply sE rfl|apply dG (by kernel_rfl)|fail);(conv=>whnf)))
   exact hn10 _ s5.1 h (weak_gen [0, 1] rfl rfl (sK rfl (rowLe_vals (valsLe.cons (cellsLe_refl rfl) valsLe.nil)) (sK rfl (rowLe_ints (by first | rfl | simp)) storeLe.nil)) (slotsLe.cons (cR rfl rfl) (slotsLe.cons (And.intro rfl (AV.Le.of_eq (congrArg (AV.ms _) (by first | rfl | omega | (simp; omega) | simp)))) slotsLe.nil)))
 ·clear h h10
  intro s1 hc13
  ((conv=>whnf);repeat((first|apply TT mix|apply sE rfl|apply dG (by kernel_rfl)|fail);(conv=>whnf)))
  refine bnd hc13 (fun y3 hy3 hc13 => ?_)
  refine Or.inl ⟨_, c_decomp_Order _ _ _ hy3, rfl, ?_⟩
  have e := Option.some.inj hc13; subst e
  ((conv=>whnf);repeat((first|apply TT mix|apply sE rfl|apply dG (by kernel_rfl)|fail);(conv=>whnf)))
  exact And.intro (AV.Le.refl _) rfl
theorem c_comp_within (p_r : Int) (p_from : Int) (p_many : Int) (r : Bool) (h : m_comp_within p_r p_from p_many = some r) : Contract pl 79 [(AV.int .i32 p_r), (AV.int .i32 p_from), (AV.int .i64 p_many)] [] (AV.bool r) [] := by
 refine contract_of .z Tryz.func79 rfl (by kernel_rfl) ?_
 ((conv=>whnf);repeat((first|apply TT mix|apply sE rfl|apply dG (by kernel_rfl)|fail);(conv=>whnf)))
 refine br_b rfl h (fun c1 h => ?_) (fun c1 h => ?_)
 ·have e := Option.some.inj h; subst e
  ((conv=>whnf);repeat((first|apply TT mix|apply sE rfl|apply dG (by kernel_rfl)|fail);(conv=>whnf)))
  exact And.intro (AV.Le.refl _) rfl
 ·have e := Option.some.inj h; subst e
  ((conv=>whnf);repeat((first|apply TT mix|apply sE rfl|apply dG (by kernel_rfl)|fail);(conv=>whnf)))
  exact And.intro (AV.Le.refl _) rfl
theorem c_comp_open (p_r : Int) (r : Bool) (h : m_comp_open p_r = some r) : Contract pl 80 [(AV.int .i32 p_r)] [] (AV.bool r) [] := by
 refine contract_of .z Tryz.func80 rfl (by kernel_rfl) ?_
 ((conv=>whnf);repeat((first|apply TT mix|apply sE rfl|apply dG (by kernel_rfl)|fail);(conv=>whnf)))
 refine bnd h (fun y1 hy1 h => ?_)
 refine Or.inl ⟨_, c_comp_within _ _ _ _ hy1, rfl, ?_⟩
 ((conv=>whnf);repeat((first|apply TT mix|apply sE rfl|apply dG (by kernel_rfl)|fail);(conv=>whnf)))
 refine br_b rfl h (fun c2 h => ?_) (fun c2 h => ?_)
 ·((conv=>whnf);repeat((first|apply TT mix|apply sE rfl|apply dG (by kernel_rfl)|fail);(conv=>whnf)))
  refine And.intro (by decide) ?_
  have e := Option.some.inj h; subst e
  ((conv=>whnf);repeat((first|apply TT mix|apply sE rfl|apply dG (by kernel_rfl)|fail);(conv=>whnf)))
  exact And.intro (AV.Le.refl _) rfl
 ·have e := Option.some.inj h; subst e
  ((conv=>whnf);repeat((first|apply TT mix|apply sE rfl|apply dG (by kernel_rfl)|fail);(conv=>whnf)))
  exact And.intro (AV.Le.refl _) rfl
theorem c_comp_hangul (p_a : Int) (p_b : Int) (r : Int × Bool) (h : m_comp_hangul p_a p_b = some r) : Contract pl 72 [(AV.int .i32 p_a), (AV.int .i32 p_b)] [] (AV.tup [(AV.int .i32 r.1), (AV.bool r.2)]) [] := by
 refine contract_of (.t false .z (.t false (.t false (.t true .z (.t false .z (.t true .z .z))) .z) .z)) Tryz.func72 rfl (by kernel_rfl) ?_
 ((conv=>whnf);repeat((first|apply TT mix|apply sE rfl|apply dG (by kernel_rfl)|fail);(conv=>whnf)))
 refine bnd h (fun x9 h9 h => ?_)
 refine cut_at (fun s1 : Bool => mkF 32 [(0, (.int .i32 p_a)), (1, (.int .i32 p_b)), (6, (.bool s1))] []) (fun s1 : Bool => m_comp_hangul_K2 p_a p_b s1 = some r) ?_ ?_
 ·intro Kn9 hn9
  ((conv=>whnf);repeat((first|apply TT mix|apply sE rfl|apply dG (by kernel_rfl)|fail);(conv=>whnf)))
  refine bnd h9 (fun y7 hy7 h9 => ?_)
  refine Or.inl ⟨_, c_comp_within _ _ _ _ hy7, rfl, ?_⟩
  ((conv=>whnf);repeat((first|apply TT mix|apply sE rfl|apply dG (by kernel_rfl)|fail);(conv=>whnf)))
  refine br_b rfl h9 (fun c10 h9 => ?_) (fun c10 h9 => ?_)
  ·((conv=>whnf);repeat((first|apply TT mix|apply sE rfl|apply dG (by kernel_rfl)|fail);(conv=>whnf)))
   refine bnd h9 (fun y8 hy8 h9 => ?_)
   refine Or.inl ⟨_, c_comp_within _ _ _ _ hy8, rfl, ?_⟩
   have e := Option.some.inj h9; subst e
   ((conv=>whnf);repeat((first|apply TT mix|apply sE rfl|apply dG (by kernel_rfl)|fail);(conv=>whnf)))
   exact hn9 _ y8 h (weak_gen [] rfl rfl storeLe.nil (sQ rfl rfl))
  ·have e := Option.some.inj h9; subst e
   ((conv=>whnf);repeat((first|apply TT mix|apply sE rfl|apply dG (by kernel_rfl)|fail);(conv=>whnf)))
   exact hn9 _ false h (weak_gen [] rfl rfl storeLe.nil (sQ rfl rfl))
 ·clear h h9
  intro s1 hc11
  ((conv=>whnf);repeat((first|apply TT mix|apply sE rfl|apply dG (by kernel_rfl)|fail);(conv=>whnf)))
  refine br_b rfl hc11 (fun c12 hc11 => ?_) (fun c12 hc11 => ?_)
  ·have e := Option.some.inj hc11; subst e
   ((conv=>whnf);repeat((first|apply TT mix|apply sE rfl|apply dG (by kernel_rfl)|fail);(conv=>whnf)))
   exact And.intro (AV.Le.refl _) rfl
  ·((conv=>whnf);repeat((first|apply TT mix|apply sE rfl|apply dG (by kernel_rfl)|fail);(conv=>whnf)))
   refine bnd hc11 (fun x13 h13 hc11 => ?_)
   refine cut_at (fun s3 : Bool => mkF 32 [(0, (.int .i32 p_a)), (1, (.int .i32 p_b)), (21, (.bool s3))] []) (fun s3 : Bool => m_comp_hangul_K4 p_a p_b s3 = some r) ?_ ?_
   ·intro Kn13 hn13
    ((conv=>whnf);repeat((first|apply TT mix|apply sE rfl|apply dG (by kernel_rfl)|fail);(conv=>whnf)))
    refine bnd h13 (fun y5 hy5 h13 => ?_)
    refine Or.inl ⟨_, c_comp_open _ _ hy5, rfl, ?_⟩
    ((conv=>whnf);repeat((first|apply TT mix|apply sE rfl|apply dG (by kernel_rfl)|fail);(conv=>whnf)))
    refine br_b rfl h13 (fun c14 h13 => ?_) (fun c14 h13 => ?_)
    ·((conv=>whnf);repeat((first|apply TT mix|apply sE rfl|apply dG (by kernel_rfl)|fail);(conv=>whnf)))
     refine bnd h13 (fun y6 hy6 h13 => ?_)
     refine Or.inl ⟨_, c_comp_within _ _ _ _ hy6, rfl, ?_⟩
     have e := Option.some.inj h13; subst e
     ((conv=>whnf);repeat((first|apply TT mix|apply sE rfl|apply dG (by kernel_rfl)|fail);(conv=>whnf)))
     exact hn13 _ y6 hc11 (weak_gen [] rfl rfl storeLe.nil (sQ rfl rfl))
    ·have e := Option.some.inj h13; subst e
     ((conv=>whnf);repeat((first|apply TT mix|apply sE rfl|apply dG (by kernel_rfl)|fail);(conv=>whnf)))
     exact hn13 _ false hc11 (weak_gen [] rfl rfl storeLe.nil (sQ rfl rfl))
   ·clear hc11 h13
    intro s3 hc15
    ((conv=>whnf);repeat((first|apply TT mix|apply sE rfl|apply dG (by kernel_rfl)|fail);(conv=>whnf)))
    refine br_b rfl hc15 (fun c16 hc15 => ?_) (fun c16 hc15 => ?_)
    ·have e := Option.some.inj hc15; subst e
     ((conv=>whnf);repeat((first|apply TT mix|apply sE rfl|apply dG (by kernel_rfl)|fail);(conv=>whnf)))
     exact And.intro (AV.Le.refl _) rfl
    ·have e := Option.some.inj hc15; subst e
     ((conv=>whnf);repeat((first|apply TT mix|apply sE rfl|apply dG (by kernel_rfl)|fail);(conv=>whnf)))
     exact And.intro (AV.Le.refl _) rfl
theorem c_cmp_isNaN_rune (p_x : Int) (r : Bool) (h : m_cmp_isNaN_rune p_x = some r) : Contract pl 87 [(AV.int .i32 p_x)] [] (AV.bool r) [] := by
 refine contract_of .z Tryz.func87 rfl (by kernel_rfl) ?_
 have e := Option.some.inj h; subst e
 ((conv=>whnf);repeat((first|apply TT mix|apply sE rfl|apply dG (by kernel_rfl)|fail);(conv=>whnf)))
 exact And.intro (AV.Le.refl _) rfl
theorem c_cmp_Less_rune (p_x : Int) (p_y : Int) (r : Bool) (h : m_cmp_Less_rune p_x p_y = some r) : Contract pl 84 [(AV.int .i32 p_x), (AV.int .i32 p_y)] [] (AV.bool r) [] := by
 refine contract_of .z Tryz.func84 rfl (by kernel_rfl) ?_
 ((conv=>whnf);repeat((first|apply TT mix|apply sE rfl|apply dG (by kernel_rfl)|fail);(conv=>whnf)))
 refine bnd h (fun y1 hy1 h => ?_)
 refine Or.inl ⟨_, c_cmp_isNaN_rune _ _ hy1, rfl, ?_⟩
 ((conv=>whnf);repeat((first|apply TT mix|apply sE rfl|apply dG (by kernel_rfl)|fail);(conv=>whnf)))
 refine br_b rfl h (fun c3 h => ?_) (fun c3 h => ?_)
 ·((conv=>whnf);repeat((first|apply TT mix|apply sE rfl|apply dG (by kernel_rfl)|fail);(conv=>whnf)))
  refine bnd h (fun y2 hy2 h => ?_)
  refine Or.inl ⟨_, c_cmp_isNaN_rune _ _ hy2, rfl, ?_⟩
  ((conv=>whnf);repeat((first|apply TT mix|apply sE rfl|apply dG (by kernel_rfl)|fail);(conv=>whnf)))
  refine br_b rfl h (fun c4 h => ?_) (fun c4 h => ?_)
  ·have e := Option.some.inj h; subst e
   ((conv=>whnf);repeat((first|apply TT mix|apply sE rfl|apply dG (by kernel_rfl)|fail);(conv=>whnf)))
   exact And.intro (AV.Le.refl _) rfl
  ·have e := Option.some.inj h; subst e
   ((conv=>whnf);repeat((first|apply TT mix|apply sE rfl|apply dG (by kernel_rfl)|fail);(conv=>whnf)))
   exact And.intro (AV.Le.refl _) rfl
 ·have e := Option.some.inj h; subst e
  ((conv=>whnf);repeat((first|apply TT mix|apply sE rfl|apply dG (by kernel_rfl)|fail);(conv=>whnf)))
  exact And.intro (AV.Le.refl _) rfl
theorem c_slices_isNaN_rune (p_x : Int) (r : Bool) (h : m_slices_isNaN_rune p_x = some r) : Contract pl 85 [(AV.int .i32 p_x)] [] (AV.bool r) [] := by
 refine contract_of .z Tryz.func85 rfl (by kernel_rfl) ?_
 have e := Option.some.inj h; subst e
 ((conv=>whnf);repeat((first|apply TT mix|apply sE rfl|apply dG (by kernel_rfl)|fail);(conv=>whnf)))
 exact And.intro (AV.Le.refl _) rfl
theorem c_slices_BinarySearch_rune_rune (p_x : (List Int)) (p_target : Int) (r : Int × Bool) (h : m_slices_BinarySearch_rune_rune p_x p_target = some r) : Contract pl 81 [(e_L_i32 p_x), (AV.int .i32 p_target)] [] (AV.tup [(AV.int .i64 r.1), (AV.bool r.2)]) [] := by
 refine contract_of (.t false .z (.t false .z (.t false .z (.t true .z .z)))) Tryz.func81 rfl (by kernel_rfl) ?_
 ((conv=>whnf);repeat((first|apply TT mix|apply sE rfl|apply dG (by kernel_rfl)|fail);(conv=>whnf)))
 refine bnd h (fun x11 h11 h => ?_)
 refine cut_at (fun s1 : Int => mkF 54 [(0, (e_L_i32 p_x)), (1, (.int .i32 p_target)), (6, (.int .i64 ((p_x.length : Nat) : Int))), (7, (.int .i64 s1))] []) (fun s1 : Int => m_slices_BinarySearch_rune_rune_K2 p_x p_target s1 = some r) ?_ ?_
 ·intro Kn11 hn11
  ((conv=>whnf);repeat((first|apply TT mix|apply sE rfl|apply dG (by kernel_rfl)|fail);(conv=>whnf)))
  refine loop_iter (fun s6 : Int × Int => mkF 54 [(0, (e_L_i32 p_x)), (1, (.int .i32 p_target)), (6, (.int .i64 ((p_x.length : Nat) : Int))), (7, (.int .i64 s6.1)), (8, (.int .i64 s6.2))] []) h11 (weak_gen [] rfl rfl storeLe.nil (sQ rfl rfl)) ?_
  intro k8 s6 st8 Kn8 hn8 h8_ hs8
  ((conv=>whnf);repeat((first|apply TT mix|apply sE rfl|apply dG (by kernel_rfl)|fail);(conv=>whnf)))
  refine br_b rfl h8_ (fun c12 h8_ => ?_) (fun c12 h8_ => ?_)
  ·((conv=>whnf);repeat((first|apply TT mix|apply sE rfl|apply dG (by kernel_rfl)|fail);(conv=>whnf)))
   refine And.intro (by decide) ?_
   ((conv=>whnf);repeat((first|apply TT mix|apply sE rfl|apply dG (by kernel_rfl)|fail);(conv=>whnf)))
   refine grd2 rfl rfl h8_ (fun h8_ => ?_)
   ((conv=>whnf);repeat((first|apply TT mix|apply sE rfl|apply dG (by kernel_rfl)|fail);(conv=>whnf)))
   refine bnd h8_ (fun y9 hy9 h8_ => ?_)
   refine Or.inl ⟨_, c_cmp_Less_rune _ _ _ hy9, rfl, ?_⟩
   ((conv=>whnf);repeat((first|apply TT mix|apply sE rfl|apply dG (by kernel_rfl)|fail);(conv=>whnf)))
   refine br_b rfl h8_ (fun c13 h8_ => ?_) (fun c13 h8_ => ?_)
   ·have e := Option.some.inj h8_; subst e
    ((conv=>whnf);repeat((first|apply TT mix|apply sE rfl|apply dG (by kernel_rfl)|fail);(conv=>whnf)))
    exact hn8 _ ((IntKind.wrap .i64 ((IntKind.wrap .i64 (Int.fdiv (IntKind.wrap .u64 (IntKind.wrap .i64 (s6.1 + s6.2))) 2)) + (1 : Int))), s6.2) hs8 (weak_gen [] rfl rfl storeLe.nil (sQ rfl rfl))
   ·have e := Option.some.inj h8_; subst e
    ((conv=>whnf);repeat((first|apply TT mix|apply sE rfl|apply dG (by kernel_rfl)|fail);(conv=>whnf)))
    exact hn8 _ (s6.1, (IntKind.wrap .i64 (Int.fdiv (IntKind.wrap .u64 (IntKind.wrap .i64 (s6.1 + s6.2))) 2))) hs8 (weak_gen [] rfl rfl storeLe.nil (sQ rfl rfl))
  ·have e := Option.some.inj h8_; subst e
   have e := done_out hs8; subst e
   ((conv=>whnf);repeat((first|apply TT mix|apply sE rfl|apply dG (by kernel_rfl)|fail);(conv=>whnf)))
   exact hn11 _ s6.1 h (weak_gen [] rfl rfl storeLe.nil (sQ rfl rfl))
 ·clear h h11
  intro s1 hc14
  ((conv=>whnf);repeat((first|apply TT mix|apply sE rfl|apply dG (by kernel_rfl)|fail);(conv=>whnf)))
  refine br_b rfl hc14 (fun c15 hc14 => ?_) (fun c15 hc14 => ?_)
  ·((conv=>whnf);repeat((first|apply TT mix|apply sE rfl|apply dG (by kernel_rfl)|fail);(conv=>whnf)))
   refine grd2 rfl rfl hc14 (fun hc14 => ?_)
   ((conv=>whnf);repeat((first|apply TT mix|apply sE rfl|apply dG (by kernel_rfl)|fail);(conv=>whnf)))
   refine br_b rfl hc14 (fun c16 hc14 => ?_) (fun c16 hc14 => ?_)
   ·have e := Option.some.inj hc14; subst e
    ((conv=>whnf);repeat((first|apply TT mix|apply sE rfl|apply dG (by kernel_rfl)|fail);(conv=>whnf)))
    exact And.intro (AV.Le.refl _) rfl
   ·((conv=>whnf);repeat((first|apply TT mix|apply sE rfl|apply dG (by kernel_rfl)|fail);(conv=>whnf)))
    refine grd2 rfl rfl hc14 (fun hc14 => ?_)
    ((conv=>whnf);repeat((first|apply TT mix|apply sE rfl|apply dG (by kernel_rfl)|fail);(conv=>whnf)))
    refine bnd hc14 (fun y3 hy3 hc14 => ?_)
    refine Or.inl ⟨_, c_slices_isNaN_rune _ _ hy3, rfl, ?_⟩
    ((conv=>whnf);repeat((first|apply TT mix|apply sE rfl|apply dG (by kernel_rfl)|fail);(conv=>whnf)))
    refine br_b rfl hc14 (fun c17 hc14 => ?_) (fun c17 hc14 => ?_)
    ·((conv=>whnf);repeat((first|apply TT mix|apply sE rfl|apply dG (by kernel_rfl)|fail);(conv=>whnf)))
     refine bnd hc14 (fun y4 hy4 hc14 => ?_)
     refine Or.inl ⟨_, c_slices_isNaN_rune _ _ hy4, rfl, ?_⟩
     have e := Option.some.inj hc14; subst e
     ((conv=>whnf);repeat((first|apply TT mix|apply sE rfl|apply dG (by kernel_rfl)|fail);(conv=>whnf)))
     exact And.intro (AV.Le.refl _) rfl
    ·have e := Option.some.inj hc14; subst e
     ((conv=>whnf);repeat((first|apply TT mix|apply sE rfl|apply dG (by kernel_rfl)|fail);(conv=>whnf)))
     exact And.intro (AV.Le.refl _) rfl
  ·have e := Option.some.inj hc14; subst e
   ((conv=>whnf);repeat((first|apply TT mix|apply sE rfl|apply dG (by kernel_rfl)|fail);(conv=>whnf)))
   exact And.intro (AV.Le.refl _) rfl
theorem c_decomp_Composes (p_t : T_api_Norm) (p_row : Int) (r : Bool) (h : m_decomp_Composes p_t p_row = some r) : Contract pl 73 [(e_api_Norm p_t), (AV.int .i64 p_row)] [] (AV.bool r) [] := by
 refine contract_of (.t false .z (.t false (.t true .z .z) .z)) Tryz.func73 rfl (by kernel_rfl) ?_
 ((conv=>whnf);repeat((first|apply TT mix|apply sE rfl|apply dG (by kernel_rfl)|fail);(conv=>whnf)))
 refine bnd h (fun x6 h6 h => ?_)
 refine cut_at (fun s1 : Bool => mkF 58 [(1, (.int .i64 p_row)), (2, (.mp 0 0 0)), (26, (.bool s1))] [some ⟨3, 26, (.vals [(e_api_Norm p_t)]), false, false⟩]) (fun s1 : Bool => m_decomp_Composes_K2 p_t p_row s1 = some r) ?_ ?_
 ·intro Kn6 hn6
  ((conv=>whnf);repeat((first|apply TT mix|apply sE rfl|apply dG (by kernel_rfl)|fail);(conv=>whnf)))
  refine br_b rfl h6 (fun c7 h6 => ?_) (fun c7 h6 => ?_)
  ·have e := Option.some.inj h6; subst e
   ((conv=>whnf);repeat((first|apply TT mix|apply sE rfl|apply dG (by kernel_rfl)|fail);(conv=>whnf)))
   exact hn6 _ true h (weak_gen [0] rfl rfl (sK rfl (rowLe_vals (valsLe.cons (cellsLe_refl rfl) valsLe.nil)) storeLe.nil) (sQ rfl rfl))
  ·((conv=>whnf);repeat((first|apply TT mix|apply sE rfl|apply dG (by kernel_rfl)|fail);(conv=>whnf)))
   refine br_b rfl h6 (fun c8 h6 => ?_) (fun c8 h6 => ?_)
   ·have e := Option.some.inj h6; subst e
    ((conv=>whnf);repeat((first|apply TT mix|apply sE rfl|apply dG (by kernel_rfl)|fail);(conv=>whnf)))
    exact hn6 _ true h (weak_gen [0] rfl rfl (sK rfl (rowLe_vals (valsLe.cons (cellsLe_refl rfl) valsLe.nil)) storeLe.nil) (sQ rfl rfl))
   ·((conv=>whnf);repeat((first|apply TT mix|apply sE rfl|apply dG (by kernel_rfl)|fail);(conv=>whnf)))
    refine grd2 rfl rfl h6 (fun h6 => ?_)
    have e := Option.some.inj h6; subst e
    ((conv=>whnf);repeat((first|apply TT mix|apply sE rfl|apply dG (by kernel_rfl)|fail);(conv=>whnf)))
    exact hn6 _ ((((p_t.f_Rows.getD (p_row.toNat) d_api_Row).f_To.length : Nat) : Int) != (2 : Int)) h (weak_gen [0] rfl rfl (sK rfl (rowLe_vals (valsLe.cons (cellsLe_refl rfl) valsLe.nil)) storeLe.nil) (sQ rfl rfl))
 ·clear h h6
  intro s1 hc9
  ((conv=>whnf);repeat((first|apply TT mix|apply sE rfl|apply dG (by kernel_rfl)|fail);(conv=>whnf)))
  refine br_b rfl hc9 (fun c10 hc9 => ?_) (fun c10 hc9 => ?_)
  ·have e := Option.some.inj hc9; subst e
   ((conv=>whnf);repeat((first|apply TT mix|apply sE rfl|apply dG (by kernel_rfl)|fail);(conv=>whnf)))
   exact And.intro (AV.Le.refl _) rfl
  ·((conv=>whnf);repeat((first|apply TT mix|apply sE rfl|apply dG (by kernel_rfl)|fail);(conv=>whnf)))
   refine grd2 rfl rfl hc9 (fun hc9 => ?_)
   ((conv=>whnf);repeat((first|apply TT mix|apply sE rfl|apply dG (by kernel_rfl)|fail);(conv=>whnf)))
   refine bnd hc9 (fun y3 hy3 hc9 => ?_)
   refine Or.inl ⟨_, c_slices_BinarySearch_rune_rune _ _ _ hy3, rfl, ?_⟩
   ((conv=>whnf);repeat((first|apply TT mix|apply sE rfl|apply dG (by kernel_rfl)|fail);(conv=>whnf)))
   refine br_b rfl hc9 (fun c11 hc9 => ?_) (fun c11 hc9 => ?_)
   ·((conv=>whnf);repeat((first|apply TT mix|apply sE rfl|apply dG (by kernel_rfl)|fail);(conv=>whnf)))
    refine bnd hc9 (fun y4 hy4 hc9 => ?_)
    refine Or.inl ⟨_, c_decomp_Class _ _ _ hy4, rfl, ?_⟩
    ((conv=>whnf);repeat((first|apply TT mix|apply sE rfl|apply dG (by kernel_rfl)|fail);(conv=>whnf)))
    refine br_b rfl hc9 (fun c12 hc9 => ?_) (fun c12 hc9 => ?_)
    ·((conv=>whnf);repeat((first|apply TT mix|apply sE rfl|apply dG (by kernel_rfl)|fail);(conv=>whnf)))
     refine grd2 rfl rfl hc9 (fun hc9 => ?_)
     ((conv=>whnf);repeat((first|apply TT mix|apply sE rfl|apply dG (by kernel_rfl)|fail);(conv=>whnf)))
     refine bnd hc9 (fun y5 hy5 hc9 => ?_)
     refine Or.inl ⟨_, c_decomp_Class _ _ _ hy5, rfl, ?_⟩
     have e := Option.some.inj hc9; subst e
     ((conv=>whnf);repeat((first|apply TT mix|apply sE rfl|apply dG (by kernel_rfl)|fail);(conv=>whnf)))
     exact And.intro (AV.Le.refl _) rfl
    ·have e := Option.some.inj hc9; subst e
     ((conv=>whnf);repeat((first|apply TT mix|apply sE rfl|apply dG (by kernel_rfl)|fail);(conv=>whnf)))
     exact And.intro (AV.Le.refl _) rfl
   ·have e := Option.some.inj hc9; subst e
    ((conv=>whnf);repeat((first|apply TT mix|apply sE rfl|apply dG (by kernel_rfl)|fail);(conv=>whnf)))
    exact And.intro (AV.Le.refl _) rfl
theorem c_comp_Pair (p_t : T_api_Norm) (p_a : Int) (p_b : Int) (r : Int × Bool) (h : m_comp_Pair p_t p_a p_b = some r) : Contract pl 62 [(e_api_Norm p_t), (AV.int .i32 p_a), (AV.int .i32 p_b)] [] (AV.tup [(AV.int .i32 r.1), (AV.bool r.2)]) [] := by
 refine contract_of (.t false .z (.t false .z (.t true (.t false .z (.t false (.t false (.t false .z (.t false .z (.t false (.t false (.t false .z (.t true .z .z)) .z) .z))) .z) .z)) .z))) Tryz.func62 rfl (by kernel_rfl) ?_
 ((conv=>whnf);repeat((first|apply TT mix|apply sE rfl|apply dG (by kernel_rfl)|fail);(conv=>whnf)))
 refine bnd h (fun y1 hy1 h => ?_)
 refine Or.inl ⟨_, c_comp_hangul _ _ _ hy1, rfl, ?_⟩
 ((conv=>whnf);repeat((first|apply TT mix|apply sE rfl|apply dG (by kernel_rfl)|fail);(conv=>whnf)))
 refine br_b rfl h (fun c14 h => ?_) (fun c14 h => ?_)
 ·have e := Option.some.inj h; subst e
  ((conv=>whnf);repeat((first|apply TT mix|apply sE rfl|apply dG (by kernel_rfl)|fail);(conv=>whnf)))
  exact And.intro (AV.Le.refl _) rfl
 ·((conv=>whnf);repeat((first|apply TT mix|apply sE rfl|apply dG (by kernel_rfl)|fail);(conv=>whnf)))
  refine bnd h (fun x15 h15 h => ?_)
  refine cut_at (fun s2 : Unit => mkF 56 [] []) (fun s2 : Unit => some ((0 : Int), false) = some r) ?_ ?_
  ·intro Kn15 hn15
   ((conv=>whnf);repeat((first|apply TT mix|apply sE rfl|apply dG (by kernel_rfl)|fail);(conv=>whnf)))
   refine loop_iter (fun s5 : Int => mkF 56 [(1, (.int .i32 p_a)), (2, (.int .i32 p_b)), (3, (.mp 0 0 0)), (21, (e_L_api_Row p_t.f_Rows)), (22, (.int .i64 ((p_t.f_Rows.length : Nat) : Int))), (23, (.int .i64 s5))] [some ⟨3, 26, (.vals [(e_api_Norm p_t)]), false, false⟩]) h15 (weak_gen [0] rfl rfl (sK rfl (rowLe_vals (valsLe.cons (cellsLe_refl rfl) valsLe.nil)) storeLe.nil) (sQ rfl rfl)) ?_
   intro k7 s5 st7 Kn7 hn7 h7_ hs7
   ((conv=>whnf);repeat((first|apply TT mix|apply sE rfl|apply dG (by kernel_rfl)|fail);(conv=>whnf)))
   refine br_b rfl h7_ (fun c16 h7_ => ?_) (fun c16 h7_ => ?_)
   ·((conv=>whnf);repeat((first|apply TT mix|apply sE rfl|apply dG (by kernel_rfl)|fail);(conv=>whnf)))
    refine grd2 rfl rfl h7_ (fun h7_ => ?_)
    ((conv=>whnf);repeat((first|apply TT mix|apply sE rfl|apply dG (by kernel_rfl)|fail);(conv=>whnf)))
    refine bnd h7_ (fun x17 h17 h7_ => ?_)
    refine cut_at (fun s8 : Bool => mkF 56 [(1, (.int .i32 p_a)), (2, (.int .i32 p_b)), (3, (.mp 0 0 0)), (11, (.mp 1 0 0)), (21, (e_L_api_Row p_t.f_Rows)), (22, (.int .i64 ((p_t.f_Rows.length : Nat) : Int))), (23, (.int .i64 s5)), (52, (.bool s8))] [some ⟨3, 26, (.vals [(e_api_Norm p_t)]), false, false⟩, some ⟨2, 38, (.vals [(e_api_Row (p_t.f_Rows.getD (s5.toNat) d_api_Row))]), false, false⟩]) (fun s8 : Bool => m_comp_Pair_K9 p_t s5 s8 = some st7) ?_ ?_
    ·intro Kn17 hn17
     ((conv=>whnf);repeat((first|apply TT mix|apply sE rfl|apply dG (by kernel_rfl)|fail);(conv=>whnf)))
     refine br_b rfl h17 (fun c18 h17 => ?_) (fun c18 h17 => ?_)
     ·((conv=>whnf);repeat((first|apply TT mix|apply sE rfl|apply dG (by kernel_rfl)|fail);(conv=>whnf)))
      refine grd2 rfl rfl h17 (fun h17 => ?_)
      ((conv=>whnf);repeat((first|apply TT mix|apply sE rfl|apply dG (by kernel_rfl)|fail);(conv=>whnf)))
      refine br_b rfl h17 (fun c19 h17 => ?_) (fun c19 h17 => ?_)
      ·((conv=>whnf);repeat((first|apply TT mix|apply sE rfl|apply dG (by kernel_rfl)|fail);(conv=>whnf)))
       refine grd2 rfl rfl h17 (fun h17 => ?_)
       ((conv=>whnf);repeat((first|apply TT mix|apply sE rfl|apply dG (by kernel_rfl)|fail);(conv=>whnf)))
       refine br_b rfl h17 (fun c20 h17 => ?_) (fun c20 h17 => ?_)
       ·((conv=>whnf);repeat((first|apply TT mix|apply sE rfl|apply dG (by kernel_rfl)|fail);(conv=>whnf)))
        refine bnd h17 (fun y10 hy10 h17 => ?_)
        refine Or.inl ⟨_, c_decomp_Composes _ _ _ hy10, rfl, ?_⟩
        have e := Option.some.inj h17; subst e
        ((conv=>whnf);repeat((first|apply TT mix|apply sE rfl|apply dG (by kernel_rfl)|fail);(conv=>whnf)))
        exact hn17 _ y10 h7_ (weak_gen [0, 1] rfl rfl (sK rfl (rowLe_vals (valsLe.cons (cellsLe_refl rfl) valsLe.nil)) (sK rfl (rowLe_vals (valsLe.cons (cellsLe_refl rfl) valsLe.nil)) storeLe.nil)) (sQ rfl rfl))
       ·have e := Option.some.inj h17; subst e
        ((conv=>whnf);repeat((first|apply TT mix|apply sE rfl|apply dG (by kernel_rfl)|fail);(conv=>whnf)))
        exact hn17 _ false h7_ (weak_gen [0, 1] rfl rfl (sK rfl (rowLe_vals (valsLe.cons (cellsLe_refl rfl) valsLe.nil)) (sK rfl (rowLe_vals (valsLe.cons (cellsLe_refl rfl) valsLe.nil)) storeLe.nil)) (sQ rfl rfl))
      ·have e := Option.some.inj h17; subst e
       ((conv=>whnf);repeat((first|apply TT mix|apply sE rfl|apply dG (by kernel_rfl)|fail);(conv=>whnf)))
       exact hn17 _ false h7_ (weak_gen [0, 1] rfl rfl (sK rfl (rowLe_vals (valsLe.cons (cellsLe_refl rfl) valsLe.nil)) (sK rfl (rowLe_vals (valsLe.cons (cellsLe_refl rfl) valsLe.nil)) storeLe.nil)) (sQ rfl rfl))
     ·have e := Option.some.inj h17; subst e
      ((conv=>whnf);repeat((first|apply TT mix|apply sE rfl|apply dG (by kernel_rfl)|fail);(conv=>whnf)))
      exact hn17 _ false h7_ (weak_gen [0, 1] rfl rfl (sK rfl (rowLe_vals (valsLe.cons (cellsLe_refl rfl) valsLe.nil)) (sK rfl (rowLe_vals (valsLe.cons (cellsLe_refl rfl) valsLe.nil)) storeLe.nil)) (sQ rfl rfl))
    ·clear h7_ h17
     intro s8 hc21
     ((conv=>whnf);repeat((first|apply TT mix|apply sE rfl|apply dG (by kernel_rfl)|fail);(conv=>whnf)))
     refine br_b rfl hc21 (fun c22 hc21 => ?_) (fun c22 hc21 => ?_)
     ·have e := Option.some.inj hc21; subst e
      have e := done_out hs7; subst e
      have e := Option.some.inj h; subst e
      ((conv=>whnf);repeat((first|apply TT mix|apply sE rfl|apply dG (by kernel_rfl)|fail);(conv=>whnf)))
      exact And.intro (AV.Le.refl _) rfl
     ·have e := Option.some.inj hc21; subst e
      ((conv=>whnf);repeat((first|apply TT mix|apply sE rfl|apply dG (by kernel_rfl)|fail);(conv=>whnf)))
      exact hn7 _ (IntKind.wrap .i64 (s5 + (1 : Int))) hs7 (weak_gen [0] rfl rfl (sK rfl (rowLe_vals (valsLe.cons (cellsLe_refl rfl) valsLe.nil)) storeLe.nil) (sQ rfl rfl))
   ·have e := Option.some.inj h7_; subst e
    have e := done_out hs7; subst e
    ((conv=>whnf);repeat((first|apply TT mix|apply sE rfl|apply dG (by kernel_rfl)|fail);(conv=>whnf)))
    exact hn15 _ () h (weak_gen [] rfl rfl storeLe.nil slotsLe.nil)
  ·clear h h15
   intro s2 hc23
   have e := Option.some.inj hc23; subst e
   ((conv=>whnf);repeat((first|apply TT mix|apply sE rfl|apply dG (by kernel_rfl)|fail);(conv=>whnf)))
   exact And.intro (AV.Le.refl _) rfl
theorem c_comp_row_add_own (p_w_0 : (List T_api_Row)) (p_w_1 : (List T_api_Range)) (p_w_2 : (List Int)) (p_w_3 : (List Int)) (p_w_4 : Int) (p_w_5 : Int) (p_r : Int) (r : (List T_api_Row) × (List T_api_Range) × (List Int) × (List Int) × Int × Int) (h : m_comp_row_add_own p_w_0 p_w_1 p_w_2 p_w_3 p_w_4 p_w_5 p_r = some r) : ContractM 1 pl 43 [(.mp 0 0 0), (.int .i32 p_r)] [some ⟨6, 90, (.vals [(.agg [(e_L_api_Row p_w_0), (e_L_api_Range p_w_1), (e_L_i32 p_w_2), (.ms 1 p_w_3.length), (.int .i64 p_w_4), (.int .i64 p_w_5)])]), false, false⟩, some ⟨1, 21, (.ints .i32 p_w_3), false, true⟩] (.tup []) [some ⟨6, 90, (.vals [(.agg [(e_L_api_Row r.1), (e_L_api_Range r.2.1), (e_L_i32 r.2.2.1), (.ms 1 r.2.2.2.1.length), (.int .i64 r.2.2.2.2.1), (.int .i64 r.2.2.2.2.2)])]), false, false⟩, some ⟨1, 21, (.ints .i32 r.2.2.2.1), false, true⟩] := by
 refine contract_own 1 (.t false .z (.t false .z (.t true (.t true .z .z) .z))) rfl Tryz.func43 rfl (by kernel_rfl) ?_
 ((conv=>whnf);repeat((first|apply TT mix|apply sE rfl|apply dG (by kernel_rfl)|fail);(conv=>whnf)))
 refine bnd h (fun y1 hy1 h => ?_)
 refine Or.inl ⟨_, c_decomp_Class _ _ _ hy1, rfl, ?_⟩
 ((conv=>whnf);repeat((first|apply TT mix|apply sE rfl|apply dG (by kernel_rfl)|fail);(conv=>whnf)))
 refine bnd h (fun x8 h8 h => ?_)
 refine cut_at (fun s2 : Unit => mkF 104 [(0, (.mp 0 0 0)), (1, (.int .i32 p_r)), (4, (.int .i64 y1))] [some ⟨6, 90, (.vals [(.agg [(e_L_api_Row p_w_0), (e_L_api_Range p_w_1), (e_L_i32 p_w_2), (.ms 1 p_w_3.length), (.int .i64 p_w_4), (.int .i64 p_w_5)])]), false, false⟩, some ⟨1, 21, (.ints .i32 p_w_3), false, true⟩]) (fun s2 : Unit => m_comp_row_add_own_K3 p_w_0 p_w_1 p_w_2 p_w_3 p_w_4 p_w_5 p_r y1 s2 = some r) ?_ ?_
 ·intro Kn8 hn8
  ((conv=>whnf);repeat((first|apply TT mix|apply sE rfl|apply dG (by kernel_rfl)|fail);(conv=>whnf)))
  refine bnd h8 (fun x9 h9 h8 => ?_)
  refine cut_at (fun s4 : Bool => mkF 104 [(0, (.mp 0 0 0)), (1, (.int .i32 p_r)), (4, (.int .i64 y1)), (40, (.bool s4))] [some ⟨6, 90, (.vals [(.agg [(e_L_api_Row p_w_0), (e_L_api_Range p_w_1), (e_L_i32 p_w_2), (.ms 1 p_w_3.length), (.int .i64 p_w_4), (.int .i64 p_w_5)])]), false, false⟩, some ⟨1, 21, (.ints .i32 p_w_3), false, true⟩]) (fun s4 : Bool => m_comp_row_add_own_K5 p_w_0 p_w_1 p_w_2 p_w_3 p_w_4 p_w_5 p_r s4 = some x8) ?_ ?_
  ·intro Kn9 hn9
   ((conv=>whnf);repeat((first|apply TT mix|apply sE rfl|apply dG (by kernel_rfl)|fail);(conv=>whnf)))
   refine br_b rfl h9 (fun c10 h9 => ?_) (fun c10 h9 => ?_)
   ·((conv=>whnf);repeat((first|apply TT mix|apply sE rfl|apply dG (by kernel_rfl)|fail);(conv=>whnf)))
    refine br_b rfl h9 (fun c11 h9 => ?_) (fun c11 h9 => ?_)
    ·have e := Option.some.inj h9; subst e
     ((conv=>whnf);repeat((first|apply TT mix|apply sE rfl|apply dG (by kernel_rfl)|fail);(conv=>whnf)))
     exact hn9 _ true h8 (weak_gen [0, 1] rfl rfl (sK rfl (rowLe_vals (valsLe.cons (cellsLe.cons (cR rfl rfl) (cellsLe.cons (cR rfl rfl) (cellsLe.cons (cR rfl rfl) (cellsLe.cons (And.intro rfl (AV.Le.of_eq (congrArg (AV.ms _) (by first | rfl | omega | (simp; omega) | simp)))) (cellsLe.cons (cR rfl rfl) (cellsLe.cons (cR rfl rfl) cellsLe.nil)))))) valsLe.nil)) (sK rfl (by first | exact rowLe_same fun _ _ _ => rfl | (simp; exact rowLe_same fun _ _ _ => rfl)) storeLe.nil)) (sQ rfl rfl))
    ·have e := Option.some.inj h9; subst e
     ((conv=>whnf);repeat((first|apply TT mix|apply sE rfl|apply dG (by kernel_rfl)|fail);(conv=>whnf)))
     exact hn9 _ (decide (p_w_5 < y1)) h8 (weak_gen [0, 1] rfl rfl (sK rfl (rowLe_vals (valsLe.cons (cellsLe.cons (cR rfl rfl) (cellsLe.cons (cR rfl rfl) (cellsLe.cons (cR rfl rfl) (cellsLe.cons (And.intro rfl (AV.Le.of_eq (congrArg (AV.ms _) (by first | rfl | omega | (simp; omega) | simp)))) (cellsLe.cons (cR rfl rfl) (cellsLe.cons (cR rfl rfl) cellsLe.nil)))))) valsLe.nil)) (sK rfl (by first | exact rowLe_same fun _ _ _ => rfl | (simp; exact rowLe_same fun _ _ _ => rfl)) storeLe.nil)) (sQ rfl rfl))
   ·have e := Option.some.inj h9; subst e
    ((conv=>whnf);repeat((first|apply TT mix|apply sE rfl|apply dG (by kernel_rfl)|fail);(conv=>whnf)))
    exact hn9 _ false h8 (weak_gen [0, 1] rfl rfl (sK rfl (rowLe_vals (valsLe.cons (cellsLe.cons (cR rfl rfl) (cellsLe.cons (cR rfl rfl) (cellsLe.cons (cR rfl rfl) (cellsLe.cons (And.intro rfl (AV.Le.of_eq (congrArg (AV.ms _) (by first | rfl | omega | (simp; omega) | simp)))) (cellsLe.cons (cR rfl rfl) (cellsLe.cons (cR rfl rfl) cellsLe.nil)))))) valsLe.nil)) (sK rfl (by first | exact rowLe_same fun _ _ _ => rfl | (simp; exact rowLe_same fun _ _ _ => rfl)) storeLe.nil)) (sQ rfl rfl))
  ·clear h8 h9
   intro s4 hc12
   ((conv=>whnf);repeat((first|apply TT mix|apply sE rfl|apply dG (by kernel_rfl)|fail);(conv=>whnf)))
   refine br_b rfl hc12 (fun c13 hc12 => ?_) (fun c13 hc12 => ?_)
   ·((conv=>whnf);repeat((first|apply TT mix|apply sE rfl|apply dG (by kernel_rfl)|fail);(conv=>whnf)))
    refine grd2 rfl rfl hc12 (fun hc12 => ?_)
    ((conv=>whnf);repeat((first|apply TT mix|apply sE rfl|apply dG (by kernel_rfl)|fail);(conv=>whnf)))
    refine bnd hc12 (fun y6 hy6 hc12 => ?_)
    refine Or.inl ⟨_, c_comp_Pair _ _ _ _ hy6, rfl, ?_⟩
    ((conv=>whnf);repeat((first|apply TT mix|apply sE rfl|apply dG (by kernel_rfl)|fail);(conv=>whnf)))
    refine br_b rfl hc12 (fun c14 hc12 => ?_) (fun c14 hc12 => ?_)
    ·((conv=>whnf);repeat((first|apply TT mix|apply sE rfl|apply dG (by kernel_rfl)|fail);(conv=>whnf)))
     refine grd2 rfl rfl hc12 (fun hc12 => ?_)
     have e := Option.some.inj hc12; subst e
     have e := Option.some.inj h; subst e
     ((conv=>whnf);repeat((first|apply TT mix|apply sE rfl|apply dG (by kernel_rfl)|fail);(conv=>whnf)))
     exact Or.inr (Or.inr (weak_gen [0, 1] rfl rfl (sK rfl (rowLe_vals (valsLe.cons (cellsLe.cons (cR rfl rfl) (cellsLe.cons (cR rfl rfl) (cellsLe.cons (cR rfl rfl) (cellsLe.cons (And.intro rfl (AV.Le.of_eq (congrArg (AV.ms _) (by first | rfl | omega | (simp; omega) | simp)))) (cellsLe.cons (cR rfl rfl) (cellsLe.cons (cR rfl rfl) cellsLe.nil)))))) valsLe.nil)) (sK rfl (rowLe_ints (by first | rfl | simp)) storeLe.nil)) (slotsLe.cons (cR rfl rfl) slotsLe.nil)))
    ·have e := Option.some.inj hc12; subst e
     ((conv=>whnf);repeat((first|apply TT mix|apply sE rfl|apply dG (by kernel_rfl)|fail);(conv=>whnf)))
     exact hn8 _ () h (weak_gen [0, 1] rfl rfl (sK rfl (rowLe_vals (valsLe.cons (cellsLe.cons (cR rfl rfl) (cellsLe.cons (cR rfl rfl) (cellsLe.cons (cR rfl rfl) (cellsLe.cons (And.intro rfl (AV.Le.of_eq (congrArg (AV.ms _) (by first | rfl | omega | (simp; omega) | simp)))) (cellsLe.cons (cR rfl rfl) (cellsLe.cons (cR rfl rfl) cellsLe.nil)))))) valsLe.nil)) (sK rfl (by first | exact rowLe_same fun _ _ _ => rfl | (simp; exact rowLe_same fun _ _ _ => rfl)) storeLe.nil)) (sQ rfl rfl))
   ·have e := Option.some.inj hc12; subst e
    ((conv=>whnf);repeat((first|apply TT mix|apply sE rfl|apply dG (by kernel_rfl)|fail);(conv=>whnf)))
    exact hn8 _ () h (weak_gen [0, 1] rfl rfl (sK rfl (rowLe_vals (valsLe.cons (cellsLe.cons (cR rfl rfl) (cellsLe.cons (cR rfl rfl) (cellsLe.cons (cR rfl rfl) (cellsLe.cons (And.intro rfl (AV.Le.of_eq (congrArg (AV.ms _) (by first | rfl | omega | (simp; omega) | simp)))) (cellsLe.cons (cR rfl rfl) (cellsLe.cons (cR rfl rfl) cellsLe.nil)))))) valsLe.nil)) (sK rfl (by first | exact rowLe_same fun _ _ _ => rfl | (simp; exact rowLe_same fun _ _ _ => rfl)) storeLe.nil)) (sQ rfl rfl))
 ·clear h h8
  intro s2 hc15
  ((conv=>whnf);repeat((first|apply TT mix|apply sE rfl|apply dG (by kernel_rfl)|fail);(conv=>whnf)))
  obtain ⟨p16, hc15⟩ := grdO hc15
  refine ⟨[], 1, (.ints .i32 [p_r]), ⟨by simp [Row.len] <;> omega, rfl, _, rfl, by simp [Row.len] <;> omega, fun j hj => .inl rfl⟩, trivial, fun j hj => rfl, ?_⟩
  conv => whnf
  refine ⟨by simp [Row.len]; try omega, p16, by omega, ?_⟩
  ((conv=>whnf);repeat((first|apply TT mix|apply sE rfl|apply dG (by kernel_rfl)|fail);(conv=>whnf)))
  refine br_b rfl hc15 (fun c17 hc15 => ?_) (fun c17 hc15 => ?_)
  ·have e := Option.some.inj hc15; subst e
   ((conv=>whnf);repeat((first|apply TT mix|apply sE rfl|apply dG (by kernel_rfl)|fail);(conv=>whnf)))
   exact Or.inr (Or.inr (weak_gen [0, 3] rfl rfl (sK rfl (rowLe_vals (valsLe.cons (cellsLe.cons (cR rfl rfl) (cellsLe.cons (cR rfl rfl) (cellsLe.cons (cR rfl rfl) (cellsLe.cons (And.intro rfl (AV.Le.of_eq (congrArg (AV.ms _) (by first | rfl | omega | (simp; omega) | simp)))) (cellsLe.cons (cR rfl rfl) (cellsLe.cons (cR rfl rfl) cellsLe.nil)))))) valsLe.nil)) (sK rfl (rowLe_ints (by first | rfl | simp)) storeLe.nil)) (slotsLe.cons (cR rfl rfl) slotsLe.nil)))
  ·have e := Option.some.inj hc15; subst e
   ((conv=>whnf);repeat((first|apply TT mix|apply sE rfl|apply dG (by kernel_rfl)|fail);(conv=>whnf)))
   exact Or.inr (Or.inr (weak_gen [0, 3] rfl rfl (sK rfl (rowLe_vals (valsLe.cons (cellsLe.cons (cR rfl rfl) (cellsLe.cons (cR rfl rfl) (cellsLe.cons (cR rfl rfl) (cellsLe.cons (And.intro rfl (AV.Le.of_eq (congrArg (AV.ms _) (by first | rfl | omega | (simp; omega) | simp)))) (cellsLe.cons (cR rfl rfl) (cellsLe.cons (cR rfl rfl) cellsLe.nil)))))) valsLe.nil)) (sK rfl (rowLe_ints (by first | rfl | simp)) storeLe.nil)) (slotsLe.cons (cR rfl rfl) slotsLe.nil)))
end Go.Proofs.YtjhgaacecfmadaaGreatDoor
