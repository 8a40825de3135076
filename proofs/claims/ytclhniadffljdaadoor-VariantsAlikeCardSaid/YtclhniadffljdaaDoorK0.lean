/- Contracts of functions, walked by their models; printed by a program of ours. No condition. -/
import Derived.Test.YtclhniadffljdaaDoorE
import Derived.Test.YtclhniadffljdaaDoorProg
import Derived.KernelRfl
namespace Go.Proofs.YtclhniadffljdaaDoor
open Go Go.SE
set_option linter.unusedVariables false
set_option linter.unusedSimpArgs false
set_option maxRecDepth 10000
set_option maxHeartbeats 2000000
attribute [local irreducible] Contract iter
theorem mix : pl.follows .mixedOrders = true := by kernel_rfl
theorem gOf {α : Type} {c : Prop} [Decidable c] {X : Option α} {r : α} (h : (if c then X else none) = some r) : c := by
 by_cases hc : c
 ·exact hc
 ·rw [if_neg hc] at h; cases h
theorem lits_u8 : ∀ (l : List Int) (j : Nat), j < l.length → (l.map (AV.int .u8)).getD j .unk = .int .u8 (l.getD j 0) := fun l j hj => by simp [List.getD_eq_getElem?_getD, hj]
theorem c_cmp_isNaN_rune (p_x : Int) (r : Bool) (h : m_cmp_isNaN_rune p_x = some r) : Contract pl 106 [(AV.int .i32 p_x)] [] (AV.bool r) [] := by
 refine contract_of .z Tryd.func106 rfl (by kernel_rfl) ?_
 have e := Option.some.inj h; subst e
 ((conv=>whnf);repeat((first|apply TT mix|apply sE rfl|apply dG (by kernel_rfl)|fail);(conv=>whnf)))
 exact And.intro (AV.Le.refl _) rfl
theorem c_cmp_Less_rune (p_x : Int) (p_y : Int) (r : Bool) (h : m_cmp_Less_rune p_x p_y = some r) : Contract pl 82 [(AV.int .i32 p_x), (AV.int .i32 p_y)] [] (AV.bool r) [] := by
 refine contract_of .z Tryd.func82 rfl (by kernel_rfl) ?_
 ((conv=>whnf);repeat((first|apply TT mix|apply sE rfl|apply dG (by kernel_rfl)|fail);(conv=>whnf)))
 refine bnd h (fun y1 hy1 h => ?_)
 refine Or.inl ⟨_, c_cmp_isNaN_rune _ _ hy1, rfl, ?_⟩
 ((conv=>whnf);repeat((first|apply TT mix|apply sE rfl|apply dG (by kernel_rfl)|fail);(conv=>whnf)))
 refine br_b rfl h (fun c3 h => ?_) (fun c3 h => ?_)
 ·((conv=>whnf);repeat((first|apply TT mix|apply sE rfl|apply dG (by kernel_rfl)|fail);(conv=>whnf)))
  refine bnd h (fun y2 hy2 h => ?_)
  refine Or.inl ⟨_, c_cmp_isNaN_rune _ _ hy2, rfl, ?_⟩
  ((conv=>whnf);repeat((first|apply TT mix|apply sE rfl|apply dG (by kernel_rfl)|fail);(conv=>whnf)))
  refine br_b rfl h (fun c4 h => ?_) (fun c4 h => ?_)
  ·have e := Option.some.inj h; subst e
   ((conv=>whnf);repeat((first|apply TT mix|apply sE rfl|apply dG (by kernel_rfl)|fail);(conv=>whnf)))
   exact And.intro (AV.Le.refl _) rfl
  ·have e := Option.some.inj h; subst e
   ((conv=>whnf);repeat((first|apply TT mix|apply sE rfl|apply dG (by kernel_rfl)|fail);(conv=>whnf)))
   exact And.intro (AV.Le.refl _) rfl
 ·have e := Option.some.inj h; subst e
  ((conv=>whnf);repeat((first|apply TT mix|apply sE rfl|apply dG (by kernel_rfl)|fail);(conv=>whnf)))
  exact And.intro (AV.Le.refl _) rfl
theorem c_slices_isNaN_rune (p_x : Int) (r : Bool) (h : m_slices_isNaN_rune p_x = some r) : Contract pl 83 [(AV.int .i32 p_x)] [] (AV.bool r) [] := by
 refine contract_of .z Tryd.func83 rfl (by kernel_rfl) ?_
 have e := Option.some.inj h; subst e
 ((conv=>whnf);repeat((first|apply TT mix|apply sE rfl|apply dG (by kernel_rfl)|fail);(conv=>whnf)))
 exact And.intro (AV.Le.refl _) rfl
theorem c_slices_BinarySearch_rune_rune (p_x : (List Int)) (p_target : Int) (r : Int × Bool) (h : m_slices_BinarySearch_rune_rune p_x p_target = some r) : Contract pl 62 [(e_L_i32 p_x), (AV.int .i32 p_target)] [] (AV.tup [(AV.int .i64 r.1), (AV.bool r.2)]) [] := by
 refine contract_of (.t false .z (.t false .z (.t false .z (.t true .z .z)))) Tryd.func62 rfl (by kernel_rfl) ?_
 ((conv=>whnf);repeat((first|apply TT mix|apply sE rfl|apply dG (by kernel_rfl)|fail);(conv=>whnf)))
 refine bnd h (fun x11 h11 h => ?_)
 refine cut_at (fun s1 : Int => mkF 54 [(0, (e_L_i32 p_x)), (1, (.int .i32 p_target)), (6, (.int .i64 ((p_x.length : Nat) : Int))), (7, (.int .i64 s1))] []) (fun s1 : Int => m_slices_BinarySearch_rune_rune_K2 p_x p_target s1 = some r) ?_ ?_
 ·intro Kn11 hn11
  ((conv=>whnf);repeat((first|apply TT mix|apply sE rfl|apply dG (by kernel_rfl)|fail);(conv=>whnf)))
  refine loop_iter (fun s6 : Int × Int => mkF 54 [(0, (e_L_i32 p_x)), (1, (.int .i32 p_target)), (6, (.int .i64 ((p_x.length : Nat) : Int))), (7, (.int .i64 s6.1)), (8, (.int .i64 s6.2))] []) h11 (weak_gen [] rfl rfl storeLe.nil (sQ rfl rfl)) ?_
  intro k8 s6 st8 Kn8 hn8 h8_ hs8
  ((conv=>whnf);repeat((first|apply TT mix|apply sE rfl|apply dG (by kernel_rfl)|fail);(conv=>whnf)))
  refine br_b rfl h8_ (fun c12 h8_ => ?_) (fun c12 h8_ => ?_)
  ·((conv=>whnf);repeat((first|apply TT mix|apply sE rfl|apply dG (by kernel_rfl)|fail);(conv=>whnf)))
   refine And.intro (by decide) ?_
   ((conv=>whnf);repeat((first|apply TT mix|apply sE rfl|apply dG (by kernel_rfl)|fail);(conv=>whnf)))
   refine grd2 rfl rfl h8_ (fun h8_ => ?_)
   ((conv=>whnf);repeat((first|apply TT mix|apply sE rfl|apply dG (by kernel_rfl)|fail);(conv=>whnf)))
   refine bnd h8_ (fun y9 hy9 h8_ => ?_)
   refine Or.inl ⟨_, c_cmp_Less_rune _ _ _ hy9, rfl, ?_⟩
   ((conv=>whnf);repeat((first|apply TT mix|apply sE rfl|apply dG (by kernel_rfl)|fail);(conv=>whnf)))
   refine br_b rfl h8_ (fun c13 h8_ => ?_) (fun c13 h8_ => ?_)
   ·have e := Option.some.inj h8_; subst e
    ((conv=>whnf);repeat((first|apply TT mix|apply sE rfl|apply dG (by kernel_rfl)|fail);(conv=>whnf)))
    exact hn8 _ ((IntKind.wrap .i64 ((IntKind.wrap .i64 (Int.fdiv (IntKind.wrap .u64 (IntKind.wrap .i64 (s6.1 + s6.2))) 2)) + (1 : Int))), s6.2) hs8 (weak_gen [] rfl rfl storeLe.nil (sQ rfl rfl))
   ·have e := Option.some.inj h8_; subst e
    ((conv=>whnf);repeat((first|apply TT mix|apply sE rfl|apply dG (by kernel_rfl)|fail);(conv=>whnf)))
    exact hn8 _ (s6.1, (IntKind.wrap .i64 (Int.fdiv (IntKind.wrap .u64 (IntKind.wrap .i64 (s6.1 + s6.2))) 2))) hs8 (weak_gen [] rfl rfl storeLe.nil (sQ rfl rfl))
  ·have e := Option.some.inj h8_; subst e
   have e := done_out hs8; subst e
   ((conv=>whnf);repeat((first|apply TT mix|apply sE rfl|apply dG (by kernel_rfl)|fail);(conv=>whnf)))
   exact hn11 _ s6.1 h (weak_gen [] rfl rfl storeLe.nil (sQ rfl rfl))
 ·clear h h11
  intro s1 hc14
  ((conv=>whnf);repeat((first|apply TT mix|apply sE rfl|apply dG (by kernel_rfl)|fail);(conv=>whnf)))
  refine br_b rfl hc14 (fun c15 hc14 => ?_) (fun c15 hc14 => ?_)
  ·((conv=>whnf);repeat((first|apply TT mix|apply sE rfl|apply dG (by kernel_rfl)|fail);(conv=>whnf)))
   refine grd2 rfl rfl hc14 (fun hc14 => ?_)
   ((conv=>whnf);repeat((first|apply TT mix|apply sE rfl|apply dG (by kernel_rfl)|fail);(conv=>whnf)))
   refine br_b rfl hc14 (fun c16 hc14 => ?_) (fun c16 hc14 => ?_)
   ·have e := Option.some.inj hc14; subst e
    ((conv=>whnf);repeat((first|apply TT mix|apply sE rfl|apply dG (by kernel_rfl)|fail);(conv=>whnf)))
    exact And.intro (AV.Le.refl _) rfl
   ·((conv=>whnf);repeat((first|apply TT mix|apply sE rfl|apply dG (by kernel_rfl)|fail);(conv=>whnf)))
    refine grd2 rfl rfl hc14 (fun hc14 => ?_)
    ((conv=>whnf);repeat((first|apply TT mix|apply sE rfl|apply dG (by kernel_rfl)|fail);(conv=>whnf)))
    refine bnd hc14 (fun y3 hy3 hc14 => ?_)
    refine Or.inl ⟨_, c_slices_isNaN_rune _ _ hy3, rfl, ?_⟩
    ((conv=>whnf);repeat((first|apply TT mix|apply sE rfl|apply dG (by kernel_rfl)|fail);(conv=>whnf)))
    refine br_b rfl hc14 (fun c17 hc14 => ?_) (fun c17 hc14 => ?_)
    ·((conv=>whnf);repeat((first|apply TT mix|apply sE rfl|apply dG (by kernel_rfl)|fail);(conv=>whnf)))
     refine bnd hc14 (fun y4 hy4 hc14 => ?_)
     refine Or.inl ⟨_, c_slices_isNaN_rune _ _ hy4, rfl, ?_⟩
     have e := Option.some.inj hc14; subst e
     ((conv=>whnf);repeat((first|apply TT mix|apply sE rfl|apply dG (by kernel_rfl)|fail);(conv=>whnf)))
     exact And.intro (AV.Le.refl _) rfl
    ·have e := Option.some.inj hc14; subst e
     ((conv=>whnf);repeat((first|apply TT mix|apply sE rfl|apply dG (by kernel_rfl)|fail);(conv=>whnf)))
     exact And.intro (AV.Le.refl _) rfl
  ·have e := Option.some.inj hc14; subst e
   ((conv=>whnf);repeat((first|apply TT mix|apply sE rfl|apply dG (by kernel_rfl)|fail);(conv=>whnf)))
   exact And.intro (AV.Le.refl _) rfl
theorem c_variants_find (p_f : T_api_Family) (p_r : Int) (r : (List Int)) (h : m_variants_find p_f p_r = some r) : Contract pl 35 [(e_api_Family p_f), (AV.int .i32 p_r)] [] (e_L_i32 r) [] := by
 refine contract_of (.t false .z (.t true .z .z)) Tryd.func35 rfl (by kernel_rfl) ?_
 ((conv=>whnf);repeat((first|apply TT mix|apply sE rfl|apply dG (by kernel_rfl)|fail);(conv=>whnf)))
 refine bnd h (fun x11 h11 h => ?_)
 refine cut_at (fun s1 : Unit => mkF 25 [] []) (fun s1 : Unit => some [] = some r) ?_ ?_
 ·intro Kn11 hn11
  ((conv=>whnf);repeat((first|apply TT mix|apply sE rfl|apply dG (by kernel_rfl)|fail);(conv=>whnf)))
  refine loop_iter (fun s4 : Int => mkF 25 [(1, (.int .i32 p_r)), (10, (e_L_L_i32 p_f.f_Sets)), (11, (.int .i64 ((p_f.f_Sets.length : Nat) : Int))), (12, (.int .i64 s4))] []) h11 (weak_gen [] rfl rfl storeLe.nil (sQ rfl rfl)) ?_
  intro k6 s4 st6 Kn6 hn6 h6_ hs6
  ((conv=>whnf);repeat((first|apply TT mix|apply sE rfl|apply dG (by kernel_rfl)|fail);(conv=>whnf)))
  refine br_b rfl h6_ (fun c12 h6_ => ?_) (fun c12 h6_ => ?_)
  ·((conv=>whnf);repeat((first|apply TT mix|apply sE rfl|apply dG (by kernel_rfl)|fail);(conv=>whnf)))
   refine grd2 rfl rfl h6_ (fun h6_ => ?_)
   ((conv=>whnf);repeat((first|apply TT mix|apply sE rfl|apply dG (by kernel_rfl)|fail);(conv=>whnf)))
   refine bnd h6_ (fun y7 hy7 h6_ => ?_)
   refine Or.inl ⟨_, c_slices_BinarySearch_rune_rune _ _ _ hy7, rfl, ?_⟩
   ((conv=>whnf);repeat((first|apply TT mix|apply sE rfl|apply dG (by kernel_rfl)|fail);(conv=>whnf)))
   refine br_b rfl h6_ (fun c13 h6_ => ?_) (fun c13 h6_ => ?_)
   ·have e := Option.some.inj h6_; subst e
    have e := done_out hs6; subst e
    have e := Option.some.inj h; subst e
    ((conv=>whnf);repeat((first|apply TT mix|apply sE rfl|apply dG (by kernel_rfl)|fail);(conv=>whnf)))
    exact And.intro (AV.Le.refl _) rfl
   ·have e := Option.some.inj h6_; subst e
    ((conv=>whnf);repeat((first|apply TT mix|apply sE rfl|apply dG (by kernel_rfl)|fail);(conv=>whnf)))
    exact hn6 _ (IntKind.wrap .i64 (s4 + (1 : Int))) hs6 (weak_gen [] rfl rfl storeLe.nil (sQ rfl rfl))
  ·have e := Option.some.inj h6_; subst e
   have e := done_out hs6; subst e
   ((conv=>whnf);repeat((first|apply TT mix|apply sE rfl|apply dG (by kernel_rfl)|fail);(conv=>whnf)))
   exact hn11 _ () h (weak_gen [] rfl rfl storeLe.nil slotsLe.nil)
 ·clear h h11
  intro s1 hc14
  have e := Option.some.inj hc14; subst e
  ((conv=>whnf);repeat((first|apply TT mix|apply sE rfl|apply dG (by kernel_rfl)|fail);(conv=>whnf)))
  exact And.intro (AV.Le.list rfl (fun j hj => absurd hj (Nat.not_lt_zero _))) rfl
theorem c_slices_Clone_rune_rune_nil  (r : (List Int)) (h : m_slices_Clone_rune_rune_nil  = some r) : Contract pl 81 [(.sl (some true) 0 fun _ => .unk)] [] (e_L_i32 r) [] := by
 refine contract_of .z Tryd.func81 rfl (by kernel_rfl) ?_
 have e := Option.some.inj h; subst e
 ((conv=>whnf);repeat((first|apply TT mix|apply sE rfl|apply dG (by kernel_rfl)|fail);(conv=>whnf)))
 exact And.intro (AV.Le.list rfl (fun j hj => absurd hj (Nat.not_lt_zero _))) rfl
theorem c_slices_Clone_rune_rune_som (p_s : (List Int)) (r : (List Int)) (h : m_slices_Clone_rune_rune_som p_s = some r) : Contract pl 81 [(.sl (some false) p_s.length fun j => (AV.int .i32 (p_s.getD j 0)))] [] (e_L_i32 r) [] := by
 refine contract_of .z Tryd.func81 rfl (by kernel_rfl) ?_
 ((conv=>whnf);repeat((first|apply TT mix|apply sE rfl|apply dG (by kernel_rfl)|fail);(conv=>whnf)))
 obtain ⟨p1, h⟩ := grdO h
 refine ⟨[], p_s.length, (.ints .i32 p_s), ⟨rfl, rfl, fun j hj => rfl⟩, trivial, fun j hj => rfl, ?_⟩
 conv => whnf
 refine ⟨by simp [Row.len]; try omega, p1, by omega, ?_⟩
 have e := Option.some.inj h; subst e
 ((conv=>whnf);repeat((first|apply TT mix|apply sE rfl|apply dG (by kernel_rfl)|fail);(conv=>whnf)))
 exact And.intro (AV.Le.list (by simp; try omega) (fun j hj => by first | rfl | rw [getD_sub hj] | (rw [getD_take hj]; simp) | simp)) rfl
theorem c_slices_Clone_rune_rune (p_s : (List Int)) (r : (List Int)) (h : m_slices_Clone_rune_rune p_s = some r) : Contract pl 81 [(e_L_i32 p_s)] [] (e_L_i32 r) [] := by
 refine contract_nil (fun hn => ?_) (c_slices_Clone_rune_rune_som p_s r h)
 have hp : p_s = [] := List.eq_nil_of_length_eq_zero hn
 subst hp
 have e : r = [] := by simpa [m_slices_Clone_rune_rune, m_slices_Clone_rune_rune_som] using h.symm
 subst e
 exact c_slices_Clone_rune_rune_nil [] rfl
theorem c_variants_Set (p_f : T_api_Family) (p_r : Int) (r : (List Int)) (h : m_variants_Set p_f p_r = some r) : Contract pl 60 [(e_api_Family p_f), (AV.int .i32 p_r)] [] (e_L_i32 r) [] := by
 refine contract_of .z Tryd.func60 rfl (by kernel_rfl) ?_
 ((conv=>whnf);repeat((first|apply TT mix|apply sE rfl|apply dG (by kernel_rfl)|fail);(conv=>whnf)))
 refine bnd h (fun y1 hy1 h => ?_)
 refine Or.inl ⟨_, c_variants_find _ _ _ hy1, rfl, ?_⟩
 ((conv=>whnf);repeat((first|apply TT mix|apply sE rfl|apply dG (by kernel_rfl)|fail);(conv=>whnf)))
 refine bnd h (fun y2 hy2 h => ?_)
 refine Or.inl ⟨_, c_slices_Clone_rune_rune _ _ hy2, rfl, ?_⟩
 have e := Option.some.inj h; subst e
 ((conv=>whnf);repeat((first|apply TT mix|apply sE rfl|apply dG (by kernel_rfl)|fail);(conv=>whnf)))
 exact And.intro (AV.Le.refl _) rfl
theorem c_variants_Seq (p_f : T_api_Family) (p_l : (List Int)) (r : (List (List Int))) (h : m_variants_Seq p_f p_l = some r) : Contract pl 33 [(e_api_Family p_f), (e_L_i32 p_l)] [] (AV.fn (.func 61) [] [(AV.ip (e_L_L_i32 r) 0)]) [] := by
 refine contract_of (.t false .z (.t false .z (.t true (.t false .z (.t false (.t false (.t false .z (.t false .z (.t false (.t false (.t false .z (.t true .z .z)) .z) .z))) .z) .z)) .z))) Tryd.func33 rfl (by kernel_rfl) ?_
 ((conv=>whnf);repeat((first|apply TT mix|apply sE rfl|apply dG (by kernel_rfl)|fail);(conv=>whnf)))
 obtain ⟨p11, h⟩ := grdO h
 refine ⟨rfl, p11.1, p11.2.1, p11.2.2, ?_⟩
 ((conv=>whnf);repeat((first|apply TT mix|apply sE rfl|apply dG (by kernel_rfl)|fail);(conv=>whnf)))
 refine bnd h (fun x12 h12 h => ?_)
 refine cut_at (fun s1 : (List (List Int)) => mkF 37 [(5, (.mp 0 0 0))] [some ⟨1, 22, (.vals [(.ms 1 s1.length)]), false, false⟩, some ⟨1, 25, (.imf s1.length fun j => (e_L_i32 (s1.getD j []))), false, false⟩]) (fun s1 : (List (List Int)) => some s1 = some r) ?_ ?_
 ·intro Kn12 hn12
  ((conv=>whnf);repeat((first|apply TT mix|apply sE rfl|apply dG (by kernel_rfl)|fail);(conv=>whnf)))
  refine loop_iter (fun s4 : (List (List Int)) × Int => mkF 37 [(2, (.mp 0 0 0)), (5, (.mp 1 0 0)), (11, (e_L_i32 p_l)), (12, (.int .i64 ((p_l.length : Nat) : Int))), (13, (.int .i64 s4.2))] [some ⟨2, 24, (.vals [(e_api_Family p_f)]), false, false⟩, some ⟨1, 22, (.vals [(.ms 2 s4.1.length)]), false, false⟩, some ⟨1, 25, (.imf s4.1.length fun j => (e_L_i32 (s4.1.getD j []))), false, false⟩]) h12 (weak_gen [0, 2, 1] rfl rfl (sK rfl (rowLe_vals (valsLe.cons (cellsLe_refl rfl) valsLe.nil)) (sK rfl (rowLe_vals (valsLe.cons (cellsLe.cons (And.intro rfl (AV.Le.of_eq (congrArg (AV.ms _) (by first | rfl | omega | (simp; omega) | simp)))) cellsLe.nil) valsLe.nil)) (sK rfl (rowLe_imfLe (by first | rfl | simp) (fun i hi => by first | exact ⟨rfl, rfl, rfl, AV.Le.refl _⟩ | exact one_app (fun _ => ⟨rfl, rfl⟩) hi | exact one_set (fun _ => ⟨rfl, rfl⟩) rfl rfl (by first | exact AV.Le.refl _ | exact AV.Le.sl_any) hi | exact one_zero ⟨rfl, rfl, rfl, AV.Le.list rfl fun j hj => absurd hj (Nat.not_lt_zero _)⟩)) storeLe.nil))) (sQ rfl rfl)) ?_
  intro k6 s4 st6 Kn6 hn6 h6_ hs6
  ((conv=>whnf);repeat((first|apply TT mix|apply sE rfl|apply dG (by kernel_rfl)|fail);(conv=>whnf)))
  refine br_b rfl h6_ (fun c13 h6_ => ?_) (fun c13 h6_ => ?_)
  ·((conv=>whnf);repeat((first|apply TT mix|apply sE rfl|apply dG (by kernel_rfl)|fail);(conv=>whnf)))
   refine grd2 rfl rfl h6_ (fun h6_ => ?_)
   ((conv=>whnf);repeat((first|apply TT mix|apply sE rfl|apply dG (by kernel_rfl)|fail);(conv=>whnf)))
   refine bnd h6_ (fun x14 h14 h6_ => ?_)
   refine cut_at (fun s7 : (List (List Int)) => mkF 37 [(2, (.mp 0 0 0)), (5, (.mp 1 0 0)), (6, (.int .i64 s4.2)), (7, (.int .i32 (p_l.getD (s4.2.toNat) 0))), (11, (e_L_i32 p_l)), (12, (.int .i64 ((p_l.length : Nat) : Int))), (13, (.int .i64 s4.2))] [some ⟨2, 24, (.vals [(e_api_Family p_f)]), false, false⟩, some ⟨1, 22, (.vals [(.ms 2 s7.length)]), false, false⟩, some ⟨1, 25, (.imf s7.length fun j => (e_L_i32 (s7.getD j []))), false, false⟩]) (fun s7 : (List (List Int)) => m_variants_Seq_K8 p_l s4 s7 = some st6) ?_ ?_
   ·intro Kn14 hn14
    ((conv=>whnf);repeat((first|apply TT mix|apply sE rfl|apply dG (by kernel_rfl)|fail);(conv=>whnf)))
    refine bnd h14 (fun y9 hy9 h14 => ?_)
    refine Or.inl ⟨_, c_variants_Set _ _ _ hy9, rfl, ?_⟩
    ((conv=>whnf);repeat((first|apply TT mix|apply sE rfl|apply dG (by kernel_rfl)|fail);(conv=>whnf)))
    refine grd2 rfl rfl h14 (fun h14 => ?_)
    have e := Option.some.inj h14; subst e
    ((conv=>whnf);repeat((first|apply TT mix|apply sE rfl|apply dG (by kernel_rfl)|fail);(conv=>whnf)))
    exact hn14 _ (s4.1.set (s4.2.toNat) y9) h6_ (weak_gen [0, 1, 2] rfl rfl (sK rfl (rowLe_vals (valsLe.cons (cellsLe_refl rfl) valsLe.nil)) (sK rfl (rowLe_vals (valsLe.cons (cellsLe.cons (And.intro rfl (AV.Le.of_eq (congrArg (AV.ms _) (by first | rfl | omega | (simp; omega) | simp)))) cellsLe.nil) valsLe.nil)) (sK rfl (rowLe_imfLe (by first | rfl | simp) (fun i hi => by first | exact ⟨rfl, rfl, rfl, AV.Le.refl _⟩ | exact one_app (fun _ => ⟨rfl, rfl⟩) hi | exact one_set (fun _ => ⟨rfl, rfl⟩) rfl rfl (by first | exact AV.Le.refl _ | exact AV.Le.sl_any) hi | exact one_zero ⟨rfl, rfl, rfl, AV.Le.list rfl fun j hj => absurd hj (Nat.not_lt_zero _)⟩)) storeLe.nil))) (sQ rfl rfl))
   ·clear h6_ h14
    intro s7 hc15
    ((conv=>whnf);repeat((first|apply TT mix|apply sE rfl|apply dG (by kernel_rfl)|fail);(conv=>whnf)))
    refine grd2 rfl rfl hc15 (fun hc15 => ?_)
    ((conv=>whnf);repeat((first|apply TT mix|apply sE rfl|apply dG (by kernel_rfl)|fail);(conv=>whnf)))
    refine br_b rfl hc15 (fun c16 hc15 => ?_) (fun c16 hc15 => ?_)
    ·((conv=>whnf);repeat((first|apply TT mix|apply sE rfl|apply dG (by kernel_rfl)|fail);(conv=>whnf)))
     refine grd2 rfl rfl hc15 (fun hc15 => ?_)
     have e := Option.some.inj hc15; subst e
     ((conv=>whnf);repeat((first|apply TT mix|apply sE rfl|apply dG (by kernel_rfl)|fail);(conv=>whnf)))
     exact hn6 _ ((s7.set (s4.2.toNat) [(p_l.getD (s4.2.toNat) 0)]), (IntKind.wrap .i64 (s4.2 + (1 : Int)))) hs6 (weak_gen [0, 1, 2] rfl rfl (sK rfl (rowLe_vals (valsLe.cons (cellsLe_refl rfl) valsLe.nil)) (sK rfl (rowLe_vals (valsLe.cons (cellsLe.cons (And.intro rfl (AV.Le.of_eq (congrArg (AV.ms _) (by first | rfl | omega | (simp; omega) | simp)))) cellsLe.nil) valsLe.nil)) (sK rfl (rowLe_imfLe (by first | rfl | simp) (fun i hi => by first | exact ⟨rfl, rfl, rfl, AV.Le.refl _⟩ | exact one_app (fun _ => ⟨rfl, rfl⟩) hi | exact one_set (fun _ => ⟨rfl, rfl⟩) rfl rfl (by first | exact AV.Le.refl _ | exact AV.Le.sl_any) hi | exact one_zero ⟨rfl, rfl, rfl, AV.Le.list rfl fun j hj => absurd hj (Nat.not_lt_zero _)⟩)) storeLe.nil))) (sQ rfl rfl))
    ·have e := Option.some.inj hc15; subst e
     ((conv=>whnf);repeat((first|apply TT mix|apply sE rfl|apply dG (by kernel_rfl)|fail);(conv=>whnf)))
     exact hn6 _ (s7, (IntKind.wrap .i64 (s4.2 + (1 : Int)))) hs6 (weak_gen [0, 1, 2] rfl rfl (sK rfl (rowLe_vals (valsLe.cons (cellsLe_refl rfl) valsLe.nil)) (sK rfl (rowLe_vals (valsLe.cons (cellsLe.cons (And.intro rfl (AV.Le.of_eq (congrArg (AV.ms _) (by first | rfl | omega | (simp; omega) | simp)))) cellsLe.nil) valsLe.nil)) (sK rfl (rowLe_imfLe (by first | rfl | simp) (fun i hi => by first | exact ⟨rfl, rfl, rfl, AV.Le.refl _⟩ | exact one_app (fun _ => ⟨rfl, rfl⟩) hi | exact one_set (fun _ => ⟨rfl, rfl⟩) rfl rfl (by first | exact AV.Le.refl _ | exact AV.Le.sl_any) hi | exact one_zero ⟨rfl, rfl, rfl, AV.Le.list rfl fun j hj => absurd hj (Nat.not_lt_zero _)⟩)) storeLe.nil))) (sQ rfl rfl))
  ·have e := Option.some.inj h6_; subst e
   have e := done_out hs6; subst e
   ((conv=>whnf);repeat((first|apply TT mix|apply sE rfl|apply dG (by kernel_rfl)|fail);(conv=>whnf)))
   exact hn12 _ s4.1 h (weak_gen [1, 2] rfl rfl (sK rfl (rowLe_vals (valsLe.cons (cellsLe.cons (And.intro rfl (AV.Le.of_eq (congrArg (AV.ms _) (by first | rfl | omega | (simp; omega) | simp)))) cellsLe.nil) valsLe.nil)) (sK rfl (rowLe_imfLe (by first | rfl | simp) (fun i hi => by first | exact ⟨rfl, rfl, rfl, AV.Le.refl _⟩ | exact one_app (fun _ => ⟨rfl, rfl⟩) hi | exact one_set (fun _ => ⟨rfl, rfl⟩) rfl rfl (by first | exact AV.Le.refl _ | exact AV.Le.sl_any) hi | exact one_zero ⟨rfl, rfl, rfl, AV.Le.list rfl fun j hj => absurd hj (Nat.not_lt_zero _)⟩)) storeLe.nil)) (slotsLe.cons (cR rfl rfl) slotsLe.nil))
 ·clear h h12
  intro s1 hc17
  have e := Option.some.inj hc17; subst e
  ((conv=>whnf);repeat((first|apply TT mix|apply sE rfl|apply dG (by kernel_rfl)|fail);(conv=>whnf)))
  exact And.intro (AV.Le.fn argsLe.nil (argsLe.cons (AV.Le.ip (AV.Le.sl_any)) argsLe.nil)) rfl
theorem c_variants_Seq_1 (p_a0 : (List (List Int))) (r : (List Int)) (h : m_variants_Seq_1 p_a0 = some r) : YContract pl 61 [(AV.ip (e_L_L_i32 p_a0) 0)] (okY (m_variants_Seq_1_it p_a0) (fun x => (e_L_i32 x)) r) (finY (m_variants_Seq_1_it p_a0) r) (goodY (m_variants_Seq_1_it p_a0) r) := by
 refine ycontract_of (.t false .z (.t false (.t false (.t false (.t false .z (.t true .z (.t false (.t false (.t false .z .z) .z) (.w (.t false .z (.t true (.t false (.t false (.t false (.t true .z .z) .z) .z) .z) .z)))))) .z) .z) .z)) Tryd.func61 rfl rfl fun lp H hok hgd => ?_
 ((conv=>whnf);repeat((first|apply TT mix|apply YY|apply sE rfl|apply dG (by kernel_rfl)|fail);(conv=>whnf)))
 obtain ⟨p19, h⟩ := grdO h
 refine ⟨rfl, p19.1, p19.2.1, p19.2.2, ?_⟩
 have e := Option.some.inj h; subst e
 ((conv=>whnf);repeat((first|apply TT mix|apply YY|apply sE rfl|apply dG (by kernel_rfl)|fail);(conv=>whnf)))
 refine yloop_iter (fun s2 : (List Int) => mkF 67 [(0, (.fn (.yield lp) [] [])), (1, (.ip (e_L_L_i32 p_a0) 0)), (3, (.ms 0 s2.length))] [some ⟨1, 3, (.ints .i64 s2), false, false⟩]) (fun x => (e_L_i32 x)) hok hgd (weak_gen [0] rfl rfl (sK rfl (rowLe_ints (by first | rfl | simp)) storeLe.nil) (slotsLe.cons (cR rfl rfl) (slotsLe.cons (cR rfl rfl) (slotsLe.cons (And.intro rfl (AV.Le.of_eq (congrArg (AV.ms _) (by first | rfl | omega | (simp; omega) | simp)))) slotsLe.nil)))) ?_
 intro s2 tr y Kn hy hn
 ((conv=>whnf);repeat((first|apply TT mix|apply YY|apply sE rfl|apply dG (by kernel_rfl)|fail);(conv=>whnf)))
 obtain ⟨p20, hy⟩ := grdO hy
 refine ⟨rfl, p20.1, p20.2.1, p20.2.2, ?_⟩
 ((conv=>whnf);repeat((first|apply TT mix|apply YY|apply sE rfl|apply dG (by kernel_rfl)|fail);(conv=>whnf)))
 refine bnd hy (fun x21 h21 hy => ?_)
 refine cut_at (fun s3 : (List Int) => mkF 67 [(0, (.fn (.yield lp) [] [])), (1, (.ip (e_L_L_i32 p_a0) 0)), (3, (.ms 0 s2.length)), (4, (.ms 1 s3.length))] [some ⟨1, 3, (.ints .i64 s2), false, false⟩, some ⟨1, 21, (.ints .i32 s3), false, false⟩]) (fun s3 : (List Int) => m_variants_Seq_1_K4 p_a0 s2 s3 = some y) ?_ ?_
 ·intro Kn21 hn21
  ((conv=>whnf);repeat((first|apply TT mix|apply YY|apply sE rfl|apply dG (by kernel_rfl)|fail);(conv=>whnf)))
  refine loop_iter (fun s15 : (List Int) × Int => mkF 67 [(0, (.fn (.yield lp) [] [])), (1, (.ip (e_L_L_i32 p_a0) 0)), (3, (.ms 0 s2.length)), (4, (.ms 1 s15.1.length)), (14, (.int .i64 ((p_a0.length : Nat) : Int))), (15, (.int .i64 s15.2))] [some ⟨1, 3, (.ints .i64 s2), false, false⟩, some ⟨1, 21, (.ints .i32 s15.1), false, false⟩]) h21 (weak_gen [0, 1] rfl rfl (sK rfl (by first | exact rowLe_same fun _ _ _ => rfl | (simp; exact rowLe_same fun _ _ _ => rfl)) (sK rfl (rowLe_ints (by first | rfl | simp)) storeLe.nil)) (slotsLe.cons (cR rfl rfl) (slotsLe.cons (cR rfl rfl) (slotsLe.cons (And.intro rfl (AV.Le.of_eq (congrArg (AV.ms _) (by first | rfl | omega | (simp; omega) | simp)))) (slotsLe.cons (And.intro rfl (AV.Le.of_eq (congrArg (AV.ms _) (by first | rfl | omega | (simp; omega) | simp)))) (slotsLe.cons (cR rfl rfl) (slotsLe.cons (cR rfl rfl) slotsLe.nil))))))) ?_
  intro k17 s15 st17 Kn17 hn17 h17_ hs17
  ((conv=>whnf);repeat((first|apply TT mix|apply YY|apply sE rfl|apply dG (by kernel_rfl)|fail);(conv=>whnf)))
  refine br_b rfl h17_ (fun c22 h17_ => ?_) (fun c22 h17_ => ?_)
  ·((conv=>whnf);repeat((first|apply TT mix|apply YY|apply sE rfl|apply dG (by kernel_rfl)|fail);(conv=>whnf)))
   refine grd2 rfl rfl h17_ (fun h17_ => ?_)
   ((conv=>whnf);repeat((first|apply TT mix|apply YY|apply sE rfl|apply dG (by kernel_rfl)|fail);(conv=>whnf)))
   refine grd2 rfl rfl h17_ (fun h17_ => ?_)
   ((conv=>whnf);repeat((first|apply TT mix|apply YY|apply sE rfl|apply dG (by kernel_rfl)|fail);(conv=>whnf)))
   refine grd2 rfl rfl h17_ (fun h17_ => ?_)
   ((conv=>whnf);repeat((first|apply TT mix|apply YY|apply sE rfl|apply dG (by kernel_rfl)|fail);(conv=>whnf)))
   refine grd2 rfl rfl h17_ (fun h17_ => ?_)
   have e := Option.some.inj h17_; subst e
   ((conv=>whnf);repeat((first|apply TT mix|apply YY|apply sE rfl|apply dG (by kernel_rfl)|fail);(conv=>whnf)))
   exact hn17 _ ((s15.1.set (s15.2.toNat) ((p_a0.getD (s15.2.toNat) []).getD ((s2.getD (s15.2.toNat) 0).toNat) 0)), (IntKind.wrap .i64 (s15.2 + (1 : Int)))) hs17 (weak_gen [0, 1] rfl rfl (sK rfl (by first | exact rowLe_same fun _ _ _ => rfl | (simp; exact rowLe_same fun _ _ _ => rfl)) (sK rfl (rowLe_ints (by first | rfl | simp)) storeLe.nil)) (slotsLe.cons (cR rfl rfl) (slotsLe.cons (cR rfl rfl) (slotsLe.cons (And.intro rfl (AV.Le.of_eq (congrArg (AV.ms _) (by first | rfl | omega | (simp; omega) | simp)))) (slotsLe.cons (And.intro rfl (AV.Le.of_eq (congrArg (AV.ms _) (by first | rfl | omega | (simp; omega) | simp)))) (slotsLe.cons (cR rfl rfl) (slotsLe.cons (cR rfl rfl) slotsLe.nil)))))))
  ·have e := Option.some.inj h17_; subst e
   have e := done_out hs17; subst e
   ((conv=>whnf);repeat((first|apply TT mix|apply YY|apply sE rfl|apply dG (by kernel_rfl)|fail);(conv=>whnf)))
   exact hn21 _ s15.1 hy (weak_gen [0, 1] rfl rfl (sK rfl (by first | exact rowLe_same fun _ _ _ => rfl | (simp; exact rowLe_same fun _ _ _ => rfl)) (sK rfl (rowLe_ints (by first | rfl | simp)) storeLe.nil)) (slotsLe.cons (cR rfl rfl) (slotsLe.cons (cR rfl rfl) (slotsLe.cons (And.intro rfl (AV.Le.of_eq (congrArg (AV.ms _) (by first | rfl | omega | (simp; omega) | simp)))) (slotsLe.cons (And.intro rfl (AV.Le.of_eq (congrArg (AV.ms _) (by first | rfl | omega | (simp; omega) | simp)))) slotsLe.nil)))))
 ·clear hy h21
  intro s3 hc23
  have e := Option.some.inj hc23; subst e
  ((conv=>whnf);repeat((first|apply TT mix|apply YY|apply sE rfl|apply dG (by kernel_rfl)|fail);(conv=>whnf)))
  refine yield_iter hn rfl rfl rfl rfl (AV.Le.sl_any) ?_ ?_
  ·((conv=>whnf);repeat((first|apply TT mix|apply YY|apply sE rfl|apply dG (by kernel_rfl)|fail);(conv=>whnf)))
   exact fun h => Bool.noConfusion h
  ·intro p hp hn
   ((conv=>whnf);repeat((first|apply TT mix|apply YY|apply sE rfl|apply dG (by kernel_rfl)|fail);(conv=>whnf)))
   refine bnd hp (fun x24 h24 hp => ?_)
   refine cut_at (fun s5 : (List Int) × Int => mkF 67 [(0, (.fn (.yield lp) [] [])), (1, (.ip (e_L_L_i32 p_a0) 0)), (3, (.ms 0 s5.1.length)), (6, (.int .i64 s5.2))] [some ⟨1, 3, (.ints .i64 s5.1), false, false⟩]) (fun s5 : (List Int) × Int => m_variants_Seq_1_K6 s5 = some p) ?_ ?_
   ·intro Kn24 hn24
    ((conv=>whnf);repeat((first|apply TT mix|apply YY|apply sE rfl|apply dG (by kernel_rfl)|fail);(conv=>whnf)))
    refine loop_iter (fun s8 : (List Int) × Int => mkF 67 [(0, (.fn (.yield lp) [] [])), (1, (.ip (e_L_L_i32 p_a0) 0)), (3, (.ms 0 s8.1.length)), (6, (.int .i64 s8.2))] [some ⟨1, 3, (.ints .i64 s8.1), false, false⟩]) h24 (weak_gen [0] rfl rfl (sK rfl (rowLe_ints (by first | rfl | simp)) storeLe.nil) (slotsLe.cons (cR rfl rfl) (slotsLe.cons (cR rfl rfl) (slotsLe.cons (And.intro rfl (AV.Le.of_eq (congrArg (AV.ms _) (by first | rfl | omega | (simp; omega) | simp)))) (slotsLe.cons (cR rfl rfl) slotsLe.nil))))) ?_
    intro k10 s8 st10 Kn10 hn10 h10_ hs10
    ((conv=>whnf);repeat((first|apply TT mix|apply YY|apply sE rfl|apply dG (by kernel_rfl)|fail);(conv=>whnf)))
    refine bnd h10_ (fun x25 h25 h10_ => ?_)
    refine cut_at (fun s11 : Bool => mkF 67 [(0, (.fn (.yield lp) [] [])), (1, (.ip (e_L_L_i32 p_a0) 0)), (3, (.ms 0 s8.1.length)), (6, (.int .i64 s8.2)), (53, (.bool s11))] [some ⟨1, 3, (.ints .i64 s8.1), false, false⟩]) (fun s11 : Bool => m_variants_Seq_1_K12 s8 s11 = some st10) ?_ ?_
    ·intro Kn25 hn25
     ((conv=>whnf);repeat((first|apply TT mix|apply YY|apply sE rfl|apply dG (by kernel_rfl)|fail);(conv=>whnf)))
     refine br_b rfl h25 (fun c26 h25 => ?_) (fun c26 h25 => ?_)
     ·((conv=>whnf);repeat((first|apply TT mix|apply YY|apply sE rfl|apply dG (by kernel_rfl)|fail);(conv=>whnf)))
      refine grd2 rfl rfl h25 (fun h25 => ?_)
      ((conv=>whnf);repeat((first|apply TT mix|apply YY|apply sE rfl|apply dG (by kernel_rfl)|fail);(conv=>whnf)))
      refine grd2 rfl rfl h25 (fun h25 => ?_)
      have e := Option.some.inj h25; subst e
      ((conv=>whnf);repeat((first|apply TT mix|apply YY|apply sE rfl|apply dG (by kernel_rfl)|fail);(conv=>whnf)))
      exact hn25 _ ((s8.1.getD (s8.2.toNat) 0) == (IntKind.wrap .i64 ((((p_a0.getD (s8.2.toNat) []).length : Nat) : Int) - (1 : Int)))) h10_ (weak_gen [0] rfl rfl (sK rfl (by first | exact rowLe_same fun _ _ _ => rfl | (simp; exact rowLe_same fun _ _ _ => rfl)) storeLe.nil) (slotsLe.cons (cR rfl rfl) (slotsLe.cons (cR rfl rfl) (slotsLe.cons (And.intro rfl (AV.Le.of_eq (congrArg (AV.ms _) (by first | rfl | omega | (simp; omega) | simp)))) (slotsLe.cons (cR rfl rfl) (slotsLe.cons (cR rfl rfl) slotsLe.nil))))))
     ·have e := Option.some.inj h25; subst e
      ((conv=>whnf);repeat((first|apply TT mix|apply YY|apply sE rfl|apply dG (by kernel_rfl)|fail);(conv=>whnf)))
      exact hn25 _ false h10_ (weak_gen [0] rfl rfl (sK rfl (by first | exact rowLe_same fun _ _ _ => rfl | (simp; exact rowLe_same fun _ _ _ => rfl)) storeLe.nil) (slotsLe.cons (cR rfl rfl) (slotsLe.cons (cR rfl rfl) (slotsLe.cons (And.intro rfl (AV.Le.of_eq (congrArg (AV.ms _) (by first | rfl | omega | (simp; omega) | simp)))) (slotsLe.cons (cR rfl rfl) (slotsLe.cons (cR rfl rfl) slotsLe.nil))))))
    ·clear h10_ h25
     intro s11 hc27
     ((conv=>whnf);repeat((first|apply TT mix|apply YY|apply sE rfl|apply dG (by kernel_rfl)|fail);(conv=>whnf)))
     refine br_b rfl hc27 (fun c28 hc27 => ?_) (fun c28 hc27 => ?_)
     ·((conv=>whnf);repeat((first|apply TT mix|apply YY|apply sE rfl|apply dG (by kernel_rfl)|fail);(conv=>whnf)))
      refine grd2 rfl rfl hc27 (fun hc27 => ?_)
      have e := Option.some.inj hc27; subst e
      ((conv=>whnf);repeat((first|apply TT mix|apply YY|apply sE rfl|apply dG (by kernel_rfl)|fail);(conv=>whnf)))
      exact hn10 _ ((s8.1.set (s8.2.toNat) (0 : Int)), (IntKind.wrap .i64 (s8.2 - (1 : Int)))) hs10 (weak_gen [0] rfl rfl (sK rfl (rowLe_ints (by first | rfl | simp)) storeLe.nil) (slotsLe.cons (cR rfl rfl) (slotsLe.cons (cR rfl rfl) (slotsLe.cons (And.intro rfl (AV.Le.of_eq (congrArg (AV.ms _) (by first | rfl | omega | (simp; omega) | simp)))) (slotsLe.cons (cR rfl rfl) slotsLe.nil)))))
     ·have e := Option.some.inj hc27; subst e
      have e := done_out hs10; subst e
      ((conv=>whnf);repeat((first|apply TT mix|apply YY|apply sE rfl|apply dG (by kernel_rfl)|fail);(conv=>whnf)))
      exact hn24 _ (s8.1, s8.2) hp (weak_gen [0] rfl rfl (sK rfl (rowLe_ints (by first | rfl | simp)) storeLe.nil) (slotsLe.cons (cR rfl rfl) (slotsLe.cons (cR rfl rfl) (slotsLe.cons (And.intro rfl (AV.Le.of_eq (congrArg (AV.ms _) (by first | rfl | omega | (simp; omega) | simp)))) (slotsLe.cons (cR rfl rfl) slotsLe.nil)))))
   ·clear hp h24
    intro s5 hc29
    ((conv=>whnf);repeat((first|apply TT mix|apply YY|apply sE rfl|apply dG (by kernel_rfl)|fail);(conv=>whnf)))
    refine br_b rfl hc29 (fun c30 hc29 => ?_) (fun c30 hc29 => ?_)
    ·have e := Option.some.inj hc29; subst e
     ((conv=>whnf);repeat((first|apply TT mix|apply YY|apply sE rfl|apply dG (by kernel_rfl)|fail);(conv=>whnf)))
     exact fun _ => hn
    ·((conv=>whnf);repeat((first|apply TT mix|apply YY|apply sE rfl|apply dG (by kernel_rfl)|fail);(conv=>whnf)))
     refine grd2 rfl rfl hc29 (fun hc29 => ?_)
     ((conv=>whnf);repeat((first|apply TT mix|apply YY|apply sE rfl|apply dG (by kernel_rfl)|fail);(conv=>whnf)))
     refine grd2 rfl rfl hc29 (fun hc29 => ?_)
     have e := Option.some.inj hc29; subst e
     ((conv=>whnf);repeat((first|apply TT mix|apply YY|apply sE rfl|apply dG (by kernel_rfl)|fail);(conv=>whnf)))
     exact hn _ (weak_gen [0] rfl rfl (sK rfl (rowLe_ints (by first | rfl | simp)) storeLe.nil) (slotsLe.cons (cR rfl rfl) (slotsLe.cons (cR rfl rfl) (slotsLe.cons (And.intro rfl (AV.Le.of_eq (congrArg (AV.ms _) (by first | rfl | omega | (simp; omega) | simp)))) slotsLe.nil))))
theorem c_variants_All (p_f : T_api_Family) (p_l : (List Int)) (p_most : Int) (r : (List (List Int))) (h : m_variants_All p_f p_l p_most = some r) : Contract pl 13 [(e_api_Family p_f), (e_L_i32 p_l), (AV.int .i64 p_most)] [] (e_L_L_i32 r) [] := by
 refine contract_of (.t false .z (.t false .z (.t false .z (.t true (.t false .z (.t false (.t false .z .z) .z)) .z)))) Tryd.func13 rfl (by kernel_rfl) ?_
 ((conv=>whnf);repeat((first|apply TT mix|apply sE rfl|apply dG (by kernel_rfl)|fail);(conv=>whnf)))
 refine br_b rfl h (fun c11 h => ?_) (fun c11 h => ?_)
 ·have e := Option.some.inj h; subst e
  ((conv=>whnf);repeat((first|apply TT mix|apply sE rfl|apply dG (by kernel_rfl)|fail);(conv=>whnf)))
  exact And.intro (AV.Le.list rfl (fun j hj => absurd hj (Nat.not_lt_zero _))) rfl
 ·((conv=>whnf);repeat((first|apply TT mix|apply sE rfl|apply dG (by kernel_rfl)|fail);(conv=>whnf)))
  refine bnd h (fun x12 h12 h => ?_)
  refine cut_at (fun s1 : (List (List Int)) => mkF 24 [(7, (.mp 0 0 0))] [some ⟨1, 22, (.vals [(.ms 1 s1.length)]), false, false⟩, some ⟨1, 25, (.imf s1.length fun j => (e_L_i32 (s1.getD j []))), false, true⟩]) (fun s1 : (List (List Int)) => some s1 = some r) ?_ ?_
  ·intro Kn12 hn12
   ((conv=>whnf);repeat((first|apply TT mix|apply sE rfl|apply dG (by kernel_rfl)|fail);(conv=>whnf)))
   refine bnd h12 (fun y3 hy3 h12 => ?_)
   refine Or.inl ⟨_, c_variants_Seq _ _ _ hy3, rfl, ?_⟩
   ((conv=>whnf);repeat((first|apply TT mix|apply sE rfl|apply dG (by kernel_rfl)|fail);(conv=>whnf)))
   refine bnd h12 (fun w7 hw7 h12 => ?_)
   refine bnd h12 (fun x8 hx8 h12 => ?_)
   refine range_iter 2 14 [(5, (.mp 0 0 0)), (7, (.mp 1 0 0)), (13, (.fn (.func 61) [] [(.ip (e_L_L_i32 y3) 0)]))] (fun s6 : (List (List Int)) => [some ⟨1, 3, (.vals [(.int .i64 p_most)]), false, false⟩, some ⟨1, 22, (.vals [(.ms 2 s6.length)]), false, false⟩, some ⟨1, 25, (.imf s6.length fun j => (e_L_i32 (s6.getD j []))), false, true⟩]) hx8 (c_variants_Seq_1 _ _ hw7) rfl rfl (fun _ => Nat.le_of_ble_eq_true rfl) rfl ⟨_, rfl, rfl, by kernel_rfl⟩ (weak_trans (weak_nilv 2 0 _ [(.sl (some true) 0 fun _ => .unk)] 1 25 (.imf [].length fun j => (e_L_i32 ([].getD j []))) _ rfl rfl rfl rfl (fun j hj => absurd hj (Nat.not_lt_zero _)) (by first | exact Nat.zero_le _ | simp)) (weak_gen [1, 2, 3] rfl rfl (sK rfl (rowLe_vals (valsLe.cons (cellsLe.cons (cR rfl rfl) cellsLe.nil) valsLe.nil)) (sK rfl (rowLe_vals (valsLe.cons (cellsLe.cons (cR rfl rfl) cellsLe.nil) valsLe.nil)) (sK rfl (rowLe_imfLe (by first | rfl | simp) (fun i hi => by first | exact ⟨rfl, rfl, rfl, AV.Le.refl _⟩ | exact one_app (fun _ => ⟨rfl, rfl⟩) hi | exact one_set (fun _ => ⟨rfl, rfl⟩) rfl rfl (by first | exact AV.Le.refl _ | exact AV.Le.sl_any) hi | exact one_zero ⟨rfl, rfl, rfl, AV.Le.list rfl fun j hj => absurd hj (Nat.not_lt_zero _)⟩)) storeLe.nil))) (sQ rfl rfl))) ?_ ?_
   ·intro v4 s6 st8 Kn8 h8 hn8
    ((conv=>whnf);repeat((first|apply TT mix|apply sE rfl|apply dG (by kernel_rfl)|fail);(conv=>whnf)))
    obtain ⟨p13, h8⟩ := grdO h8
    refine ⟨[], 1, (.imf [v4].length fun j => (e_L_i32 ([v4].getD j []))), ⟨rfl, rfl, _, rfl, Nat.le_refl _, fun j hj => .inl (by first | (rcases j with _ | _ | _ | _ | _ | j <;> first | rfl | (exfalso; simp at hj; done) | (exfalso; simp at hj; omega)))⟩, (fun j hj => rfl), fun j hj => rfl, ?_⟩
    conv => whnf
    refine ⟨by simp [Row.len]; try omega, p13, by omega, ?_⟩
    ((conv=>whnf);repeat((first|apply TT mix|apply sE rfl|apply dG (by kernel_rfl)|fail);(conv=>whnf)))
    refine br_b rfl h8 (fun c14 h8 => ?_) (fun c14 h8 => ?_)
    ·have e := Option.some.inj h8; subst e
     ((conv=>whnf);repeat((first|apply TT mix|apply sE rfl|apply dG (by kernel_rfl)|fail);(conv=>whnf)))
     obtain ⟨e, h15⟩ := hn8; subst e
     refine h15 _ _ _ rfl (weak_keep rfl trivial) ?_
     have e := Option.some.inj h12; subst e
     ((conv=>whnf);repeat((first|apply TT mix|apply sE rfl|apply dG (by kernel_rfl)|fail);(conv=>whnf)))
     exact hn12 _ (s6 ++ [v4]) h (weak_gen [1, 4] rfl rfl (sK rfl (rowLe_vals (valsLe.cons (cellsLe.cons (And.intro rfl (AV.Le.of_eq (congrArg (AV.ms _) (by first | rfl | omega | (simp; omega) | simp)))) cellsLe.nil) valsLe.nil)) (sK rfl (rowLe_imfLe (by first | rfl | simp) (fun i hi => by first | exact ⟨rfl, rfl, rfl, AV.Le.refl _⟩ | exact one_app (fun _ => ⟨rfl, rfl⟩) hi | exact one_set (fun _ => ⟨rfl, rfl⟩) rfl rfl (by first | exact AV.Le.refl _ | exact AV.Le.sl_any) hi | exact one_zero ⟨rfl, rfl, rfl, AV.Le.list rfl fun j hj => absurd hj (Nat.not_lt_zero _)⟩)) storeLe.nil)) (slotsLe.cons (cR rfl rfl) slotsLe.nil))
    ·have e := Option.some.inj h8; subst e
     ((conv=>whnf);repeat((first|apply TT mix|apply sE rfl|apply dG (by kernel_rfl)|fail);(conv=>whnf)))
     exact hn8 _ (weak_gen [0, 1, 4] rfl rfl (sK rfl (rowLe_vals (valsLe.cons (cellsLe.cons (cR rfl rfl) cellsLe.nil) valsLe.nil)) (sK rfl (rowLe_vals (valsLe.cons (cellsLe.cons (And.intro rfl (AV.Le.of_eq (congrArg (AV.ms _) (by first | rfl | omega | (simp; omega) | simp)))) cellsLe.nil) valsLe.nil)) (sK rfl (rowLe_imfLe (by first | rfl | simp) (fun i hi => by first | exact ⟨rfl, rfl, rfl, AV.Le.refl _⟩ | exact one_app (fun _ => ⟨rfl, rfl⟩) hi | exact one_set (fun _ => ⟨rfl, rfl⟩) rfl rfl (by first | exact AV.Le.refl _ | exact AV.Le.sl_any) hi | exact one_zero ⟨rfl, rfl, rfl, AV.Le.list rfl fun j hj => absurd hj (Nat.not_lt_zero _)⟩)) storeLe.nil))) slotsLe.nil)
   ·intro s6 e; subst e
    have e := Option.some.inj h12; subst e
    ((conv=>whnf);repeat((first|apply TT mix|apply sE rfl|apply dG (by kernel_rfl)|fail);(conv=>whnf)))
    exact hn12 _ s6 h (weak_gen [1, 2] rfl rfl (sK rfl (rowLe_vals (valsLe.cons (cellsLe.cons (And.intro rfl (AV.Le.of_eq (congrArg (AV.ms _) (by first | rfl | omega | (simp; omega) | simp)))) cellsLe.nil) valsLe.nil)) (sK rfl (rowLe_imfLe (by first | rfl | simp) (fun i hi => by first | exact ⟨rfl, rfl, rfl, AV.Le.refl _⟩ | exact one_app (fun _ => ⟨rfl, rfl⟩) hi | exact one_set (fun _ => ⟨rfl, rfl⟩) rfl rfl (by first | exact AV.Le.refl _ | exact AV.Le.sl_any) hi | exact one_zero ⟨rfl, rfl, rfl, AV.Le.list rfl fun j hj => absurd hj (Nat.not_lt_zero _)⟩)) storeLe.nil)) (slotsLe.cons (cR rfl rfl) slotsLe.nil))
  ·clear h h12
   intro s1 hc16
   have e := Option.some.inj hc16; subst e
   ((conv=>whnf);repeat((first|apply TT mix|apply sE rfl|apply dG (by kernel_rfl)|fail);(conv=>whnf)))
   exact And.intro (AV.Le.refl _) rfl
theorem c_eponymlaw01_Same (p_a : (List Int)) (p_b : (List Int)) (r : Bool) (h : m_eponymlaw01_Same p_a p_b = some r) : Contract pl 16 [(e_L_i32 p_a), (e_L_i32 p_b)] [] (AV.bool r) [] := by
 refine contract_of (.t false .z (.t false .z (.t true .z .z))) Tryd.func16 rfl (by kernel_rfl) ?_
 ((conv=>whnf);repeat((first|apply TT mix|apply sE rfl|apply dG (by kernel_rfl)|fail);(conv=>whnf)))
 refine br_b rfl h (fun c10 h => ?_) (fun c10 h => ?_)
 ·have e := Option.some.inj h; subst e
  ((conv=>whnf);repeat((first|apply TT mix|apply sE rfl|apply dG (by kernel_rfl)|fail);(conv=>whnf)))
  exact And.intro (AV.Le.refl _) rfl
 ·((conv=>whnf);repeat((first|apply TT mix|apply sE rfl|apply dG (by kernel_rfl)|fail);(conv=>whnf)))
  refine bnd h (fun x11 h11 h => ?_)
  refine cut_at (fun s1 : Unit => mkF 26 [] []) (fun s1 : Unit => some true = some r) ?_ ?_
  ·intro Kn11 hn11
   ((conv=>whnf);repeat((first|apply TT mix|apply sE rfl|apply dG (by kernel_rfl)|fail);(conv=>whnf)))
   refine loop_iter (fun s4 : Int => mkF 26 [(0, (e_L_i32 p_a)), (1, (e_L_i32 p_b)), (5, (.int .i64 s4))] []) h11 (weak_gen [] rfl rfl storeLe.nil (sQ rfl rfl)) ?_
   intro k6 s4 st6 Kn6 hn6 h6_ hs6
   ((conv=>whnf);repeat((first|apply TT mix|apply sE rfl|apply dG (by kernel_rfl)|fail);(conv=>whnf)))
   refine br_b rfl h6_ (fun c12 h6_ => ?_) (fun c12 h6_ => ?_)
   ·((conv=>whnf);repeat((first|apply TT mix|apply sE rfl|apply dG (by kernel_rfl)|fail);(conv=>whnf)))
    refine grd2 rfl rfl h6_ (fun h6_ => ?_)
    ((conv=>whnf);repeat((first|apply TT mix|apply sE rfl|apply dG (by kernel_rfl)|fail);(conv=>whnf)))
    refine grd2 rfl rfl h6_ (fun h6_ => ?_)
    ((conv=>whnf);repeat((first|apply TT mix|apply sE rfl|apply dG (by kernel_rfl)|fail);(conv=>whnf)))
    refine br_b rfl h6_ (fun c13 h6_ => ?_) (fun c13 h6_ => ?_)
    ·have e := Option.some.inj h6_; subst e
     have e := done_out hs6; subst e
     have e := Option.some.inj h; subst e
     ((conv=>whnf);repeat((first|apply TT mix|apply sE rfl|apply dG (by kernel_rfl)|fail);(conv=>whnf)))
     exact And.intro (AV.Le.refl _) rfl
    ·have e := Option.some.inj h6_; subst e
     ((conv=>whnf);repeat((first|apply TT mix|apply sE rfl|apply dG (by kernel_rfl)|fail);(conv=>whnf)))
     exact hn6 _ (IntKind.wrap .i64 (s4 + (1 : Int))) hs6 (weak_gen [] rfl rfl storeLe.nil (sQ rfl rfl))
   ·have e := Option.some.inj h6_; subst e
    have e := done_out hs6; subst e
    ((conv=>whnf);repeat((first|apply TT mix|apply sE rfl|apply dG (by kernel_rfl)|fail);(conv=>whnf)))
    exact hn11 _ () h (weak_gen [] rfl rfl storeLe.nil slotsLe.nil)
  ·clear h h11
   intro s1 hc14
   have e := Option.some.inj hc14; subst e
   ((conv=>whnf);repeat((first|apply TT mix|apply sE rfl|apply dG (by kernel_rfl)|fail);(conv=>whnf)))
   exact And.intro (AV.Le.refl _) rfl
theorem c_variants_Key (p_f : T_api_Family) (p_l : (List Int)) (r : (List Int)) (h : m_variants_Key p_f p_l = some r) : Contract pl 17 [(e_api_Family p_f), (e_L_i32 p_l)] [] (e_L_i32 r) [] := by
 refine contract_of (.t false .z (.t false .z (.t false .z (.t true .z .z)))) Tryd.func17 rfl (by kernel_rfl) ?_
 ((conv=>whnf);repeat((first|apply TT mix|apply sE rfl|apply dG (by kernel_rfl)|fail);(conv=>whnf)))
 obtain ⟨p9, h⟩ := grdO h
 refine ⟨rfl, p9.1, p9.2.1, p9.2.2, ?_⟩
 ((conv=>whnf);repeat((first|apply TT mix|apply sE rfl|apply dG (by kernel_rfl)|fail);(conv=>whnf)))
 refine ⟨by simp [Row.len]; try omega, p_l.length, (.ints .i32 p_l), ⟨rfl, rfl, fun j hj => rfl⟩, trivial, fun j hj => rfl, ?_⟩
 ((conv=>whnf);repeat((first|apply TT mix|apply sE rfl|apply dG (by kernel_rfl)|fail);(conv=>whnf)))
 refine bnd h (fun x10 h10 h => ?_)
 refine cut_at (fun s1 : (List Int) => mkF 36 [(5, (.ms 0 s1.length))] [some ⟨1, 21, (.ints .i32 s1), false, false⟩]) (fun s1 : (List Int) => some s1 = some r) ?_ ?_
 ·intro Kn10 hn10
  ((conv=>whnf);repeat((first|apply TT mix|apply sE rfl|apply dG (by kernel_rfl)|fail);(conv=>whnf)))
  refine loop_iter (fun s4 : (List Int) × Int => mkF 36 [(2, (.mp 0 0 0)), (5, (.ms 1 s4.1.length)), (15, (.ms 1 s4.1.length)), (16, (.int .i64 ((p_l.length : Nat) : Int))), (17, (.int .i64 s4.2))] [some ⟨2, 24, (.vals [(e_api_Family p_f)]), false, false⟩, some ⟨1, 21, (.ints .i32 s4.1), false, false⟩]) h10 (weak_gen [0, 1] rfl rfl (sK rfl (rowLe_vals (valsLe.cons (cellsLe_refl rfl) valsLe.nil)) (sK rfl (rowLe_ints (by first | rfl | simp)) storeLe.nil)) (slotsLe.cons (cR rfl rfl) (slotsLe.cons (And.intro rfl (AV.Le.of_eq (congrArg (AV.ms _) (by first | rfl | omega | (simp; omega) | simp)))) (slotsLe.cons (And.intro rfl (AV.Le.of_eq (congrArg (AV.ms _) (by first | rfl | omega | (simp; omega) | simp)))) (slotsLe.cons (cR rfl rfl) (slotsLe.cons (cR rfl rfl) slotsLe.nil)))))) ?_
  intro k6 s4 st6 Kn6 hn6 h6_ hs6
  ((conv=>whnf);repeat((first|apply TT mix|apply sE rfl|apply dG (by kernel_rfl)|fail);(conv=>whnf)))
  refine br_b rfl h6_ (fun c11 h6_ => ?_) (fun c11 h6_ => ?_)
  ·((conv=>whnf);repeat((first|apply TT mix|apply sE rfl|apply dG (by kernel_rfl)|fail);(conv=>whnf)))
   refine grd2 rfl rfl h6_ (fun h6_ => ?_)
   ((conv=>whnf);repeat((first|apply TT mix|apply sE rfl|apply dG (by kernel_rfl)|fail);(conv=>whnf)))
   refine bnd h6_ (fun y7 hy7 h6_ => ?_)
   refine Or.inl ⟨_, c_variants_find _ _ _ hy7, rfl, ?_⟩
   ((conv=>whnf);repeat((first|apply TT mix|apply sE rfl|apply dG (by kernel_rfl)|fail);(conv=>whnf)))
   refine br_b rfl h6_ (fun c12 h6_ => ?_) (fun c12 h6_ => ?_)
   ·((conv=>whnf);repeat((first|apply TT mix|apply sE rfl|apply dG (by kernel_rfl)|fail);(conv=>whnf)))
    refine grd2 rfl rfl h6_ (fun h6_ => ?_)
    ((conv=>whnf);repeat((first|apply TT mix|apply sE rfl|apply dG (by kernel_rfl)|fail);(conv=>whnf)))
    refine grd2 rfl rfl h6_ (fun h6_ => ?_)
    have e := Option.some.inj h6_; subst e
    ((conv=>whnf);repeat((first|apply TT mix|apply sE rfl|apply dG (by kernel_rfl)|fail);(conv=>whnf)))
    exact hn6 _ ((s4.1.set (s4.2.toNat) (y7.getD 0 0)), (IntKind.wrap .i64 (s4.2 + (1 : Int)))) hs6 (weak_gen [0, 1] rfl rfl (sK rfl (rowLe_vals (valsLe.cons (cellsLe_refl rfl) valsLe.nil)) (sK rfl (rowLe_ints (by first | rfl | simp)) storeLe.nil)) (slotsLe.cons (cR rfl rfl) (slotsLe.cons (And.intro rfl (AV.Le.of_eq (congrArg (AV.ms _) (by first | rfl | omega | (simp; omega) | simp)))) (slotsLe.cons (And.intro rfl (AV.Le.of_eq (congrArg (AV.ms _) (by first | rfl | omega | (simp; omega) | simp)))) (slotsLe.cons (cR rfl rfl) (slotsLe.cons (cR rfl rfl) slotsLe.nil))))))
   ·have e := Option.some.inj h6_; subst e
    ((conv=>whnf);repeat((first|apply TT mix|apply sE rfl|apply dG (by kernel_rfl)|fail);(conv=>whnf)))
    exact hn6 _ (s4.1, (IntKind.wrap .i64 (s4.2 + (1 : Int)))) hs6 (weak_gen [0, 1] rfl rfl (sK rfl (rowLe_vals (valsLe.cons (cellsLe_refl rfl) valsLe.nil)) (sK rfl (rowLe_ints (by first | rfl | simp)) storeLe.nil)) (slotsLe.cons (cR rfl rfl) (slotsLe.cons (And.intro rfl (AV.Le.of_eq (congrArg (AV.ms _) (by first | rfl | omega | (simp; omega) | simp)))) (slotsLe.cons (And.intro rfl (AV.Le.of_eq (congrArg (AV.ms _) (by first | rfl | omega | (simp; omega) | simp)))) (slotsLe.cons (cR rfl rfl) (slotsLe.cons (cR rfl rfl) slotsLe.nil))))))
  ·have e := Option.some.inj h6_; subst e
   have e := done_out hs6; subst e
   ((conv=>whnf);repeat((first|apply TT mix|apply sE rfl|apply dG (by kernel_rfl)|fail);(conv=>whnf)))
   exact hn10 _ s4.1 h (weak_gen [1] rfl rfl (sK rfl (rowLe_ints (by first | rfl | simp)) storeLe.nil) (slotsLe.cons (And.intro rfl (AV.Le.of_eq (congrArg (AV.ms _) (by first | rfl | omega | (simp; omega) | simp)))) slotsLe.nil))
 ·clear h h10
  intro s1 hc13
  have e := Option.some.inj hc13; subst e
  ((conv=>whnf);repeat((first|apply TT mix|apply sE rfl|apply dG (by kernel_rfl)|fail);(conv=>whnf)))
  exact And.intro (AV.Le.sl_any) rfl
theorem c_eponymlaw19_awake  (r : Bool) (h : m_eponymlaw19_awake  = some r) : Contract pl 10 [] [] (AV.bool r) [] := by
 refine contract_of .z Tryd.func10 rfl (by kernel_rfl) ?_
 ((conv=>whnf);repeat((first|apply TT mix|apply sE rfl|apply dG (by kernel_rfl)|fail);(conv=>whnf)))
 refine bnd h (fun y1 hy1 h => ?_)
 refine Or.inl ⟨_, contract_le (c_variants_All _ _ _ _ hy1) (argsLe.cons (AV.Le.agg (argsLe.cons (AV.Le.refl _) (argsLe.cons (AV.Le.lits (enc := fun x => (e_L_i32 x)) [] rfl (litsLe.cons (argsLe.cons (AV.Le.list (by simp; try omega) (fun j hj => by first | rfl | rw [getD_sub hj] | (rw [getD_take hj]; simp) | simp)) argsLe.nil) rfl litsLe.nil)) argsLe.nil))) (argsLe.cons (AV.Le.list (by simp; try omega) (fun j hj => by first | rfl | rw [getD_sub hj] | (rw [getD_take hj]; simp) | simp)) (argsLe.cons (AV.Le.refl _) argsLe.nil))), rfl, ?_⟩
 ((conv=>whnf);repeat((first|apply TT mix|apply sE rfl|apply dG (by kernel_rfl)|fail);(conv=>whnf)))
 refine br_b rfl h (fun c5 h => ?_) (fun c5 h => ?_)
 ·((conv=>whnf);repeat((first|apply TT mix|apply sE rfl|apply dG (by kernel_rfl)|fail);(conv=>whnf)))
  refine grd2 rfl rfl h (fun h => ?_)
  ((conv=>whnf);repeat((first|apply TT mix|apply sE rfl|apply dG (by kernel_rfl)|fail);(conv=>whnf)))
  refine bnd h (fun y2 hy2 h => ?_)
  refine Or.inl ⟨_, contract_le (c_eponymlaw01_Same _ _ _ hy2) (argsLe.cons (AV.Le.refl _) (argsLe.cons (AV.Le.list (by simp; try omega) (fun j hj => by first | rfl | rw [getD_sub hj] | (rw [getD_take hj]; simp) | simp)) argsLe.nil)), rfl, ?_⟩
  ((conv=>whnf);repeat((first|apply TT mix|apply sE rfl|apply dG (by kernel_rfl)|fail);(conv=>whnf)))
  refine br_b rfl h (fun c6 h => ?_) (fun c6 h => ?_)
  ·((conv=>whnf);repeat((first|apply TT mix|apply sE rfl|apply dG (by kernel_rfl)|fail);(conv=>whnf)))
   refine grd2 rfl rfl h (fun h => ?_)
   ((conv=>whnf);repeat((first|apply TT mix|apply sE rfl|apply dG (by kernel_rfl)|fail);(conv=>whnf)))
   refine bnd h (fun y3 hy3 h => ?_)
   refine Or.inl ⟨_, contract_le (c_variants_Key _ _ _ hy3) (argsLe.cons (AV.Le.agg (argsLe.cons (AV.Le.refl _) (argsLe.cons (AV.Le.lits (enc := fun x => (e_L_i32 x)) [] rfl (litsLe.cons (argsLe.cons (AV.Le.list (by simp; try omega) (fun j hj => by first | rfl | rw [getD_sub hj] | (rw [getD_take hj]; simp) | simp)) argsLe.nil) rfl litsLe.nil)) argsLe.nil))) (argsLe.cons (AV.Le.refl _) argsLe.nil)), rfl, ?_⟩
   ((conv=>whnf);repeat((first|apply TT mix|apply sE rfl|apply dG (by kernel_rfl)|fail);(conv=>whnf)))
   refine grd2 rfl rfl h (fun h => ?_)
   ((conv=>whnf);repeat((first|apply TT mix|apply sE rfl|apply dG (by kernel_rfl)|fail);(conv=>whnf)))
   refine bnd h (fun y4 hy4 h => ?_)
   refine Or.inl ⟨_, c_eponymlaw01_Same _ _ _ hy4, rfl, ?_⟩
   have e := Option.some.inj h; subst e
   ((conv=>whnf);repeat((first|apply TT mix|apply sE rfl|apply dG (by kernel_rfl)|fail);(conv=>whnf)))
   exact And.intro (AV.Le.refl _) rfl
  ·have e := Option.some.inj h; subst e
   ((conv=>whnf);repeat((first|apply TT mix|apply sE rfl|apply dG (by kernel_rfl)|fail);(conv=>whnf)))
   exact And.intro (AV.Le.refl _) rfl
 ·have e := Option.some.inj h; subst e
  ((conv=>whnf);repeat((first|apply TT mix|apply sE rfl|apply dG (by kernel_rfl)|fail);(conv=>whnf)))
  exact And.intro (AV.Le.refl _) rfl
theorem c_eponymlaw19_Great (p_f : T_api_Family) (r : Bool) (h : m_eponymlaw19_Great p_f = some r) : Contract pl 11 [(e_api_Family p_f)] [] (AV.bool r) [] := by
 refine contract_of (.t false .z (.t false (.t true .z .z) (.t true .z .z))) Tryd.func11 rfl (by kernel_rfl) ?_
 ((conv=>whnf);repeat((first|apply TT mix|apply sE rfl|apply dG (by kernel_rfl)|fail);(conv=>whnf)))
 refine bnd h (fun x12 h12 h => ?_)
 refine cut_at (fun s1 : Bool => mkF 28 [(1, (.mp 0 0 0)), (13, (.bool s1))] [some ⟨2, 24, (.vals [(e_api_Family p_f)]), false, false⟩]) (fun s1 : Bool => m_eponymlaw19_Great_K2 p_f s1 = some r) ?_ ?_
 ·intro Kn12 hn12
  ((conv=>whnf);repeat((first|apply TT mix|apply sE rfl|apply dG (by kernel_rfl)|fail);(conv=>whnf)))
  refine br_b rfl h12 (fun c13 h12 => ?_) (fun c13 h12 => ?_)
  ·have e := Option.some.inj h12; subst e
   ((conv=>whnf);repeat((first|apply TT mix|apply sE rfl|apply dG (by kernel_rfl)|fail);(conv=>whnf)))
   exact hn12 _ true h (weak_gen [0] rfl rfl (sK rfl (rowLe_vals (valsLe.cons (cellsLe_refl rfl) valsLe.nil)) storeLe.nil) (sQ rfl rfl))
  ·have e := Option.some.inj h12; subst e
   ((conv=>whnf);repeat((first|apply TT mix|apply sE rfl|apply dG (by kernel_rfl)|fail);(conv=>whnf)))
   exact hn12 _ (decide (((p_f.f_Name.size : Nat) : Int) > (100 : Int))) h (weak_gen [0] rfl rfl (sK rfl (rowLe_vals (valsLe.cons (cellsLe_refl rfl) valsLe.nil)) storeLe.nil) (sQ rfl rfl))
 ·clear h h12
  intro s1 hc14
  ((conv=>whnf);repeat((first|apply TT mix|apply sE rfl|apply dG (by kernel_rfl)|fail);(conv=>whnf)))
  refine br_b rfl hc14 (fun c15 hc14 => ?_) (fun c15 hc14 => ?_)
  ·have e := Option.some.inj hc14; subst e
   ((conv=>whnf);repeat((first|apply TT mix|apply sE rfl|apply dG (by kernel_rfl)|fail);(conv=>whnf)))
   exact And.intro (AV.Le.refl _) rfl
  ·((conv=>whnf);repeat((first|apply TT mix|apply sE rfl|apply dG (by kernel_rfl)|fail);(conv=>whnf)))
   refine bnd hc14 (fun x16 h16 hc14 => ?_)
   refine cut_at (fun s3 : Unit => mkF 28 [] []) (fun s3 : Unit => some false = some r) ?_ ?_
   ·intro Kn16 hn16
    ((conv=>whnf);repeat((first|apply TT mix|apply sE rfl|apply dG (by kernel_rfl)|fail);(conv=>whnf)))
    refine loop_iter (fun s6 : Int => mkF 28 [(1, (.mp 0 0 0)), (3, (.int .i64 s6))] [some ⟨2, 24, (.vals [(e_api_Family p_f)]), false, false⟩]) h16 (weak_gen [0] rfl rfl (sK rfl (rowLe_vals (valsLe.cons (cellsLe_refl rfl) valsLe.nil)) storeLe.nil) (sQ rfl rfl)) ?_
    intro k8 s6 st8 Kn8 hn8 h8_ hs8
    ((conv=>whnf);repeat((first|apply TT mix|apply sE rfl|apply dG (by kernel_rfl)|fail);(conv=>whnf)))
    refine br_b rfl h8_ (fun c17 h8_ => ?_) (fun c17 h8_ => ?_)
    ·((conv=>whnf);repeat((first|apply TT mix|apply sE rfl|apply dG (by kernel_rfl)|fail);(conv=>whnf)))
     refine grd2 rfl rfl h8_ (fun h8_ => ?_)
     ((conv=>whnf);repeat((first|apply TT mix|apply sE rfl|apply dG (by kernel_rfl)|fail);(conv=>whnf)))
     refine br_b rfl h8_ (fun c18 h8_ => ?_) (fun c18 h8_ => ?_)
     ·have e := Option.some.inj h8_; subst e
      have e := done_out hs8; subst e
      have e := Option.some.inj hc14; subst e
      ((conv=>whnf);repeat((first|apply TT mix|apply sE rfl|apply dG (by kernel_rfl)|fail);(conv=>whnf)))
      exact And.intro (AV.Le.refl _) rfl
     ·have e := Option.some.inj h8_; subst e
      ((conv=>whnf);repeat((first|apply TT mix|apply sE rfl|apply dG (by kernel_rfl)|fail);(conv=>whnf)))
      exact hn8 _ (IntKind.wrap .i64 (s6 + (1 : Int))) hs8 (weak_gen [0] rfl rfl (sK rfl (rowLe_vals (valsLe.cons (cellsLe_refl rfl) valsLe.nil)) storeLe.nil) (sQ rfl rfl))
    ·have e := Option.some.inj h8_; subst e
     have e := done_out hs8; subst e
     ((conv=>whnf);repeat((first|apply TT mix|apply sE rfl|apply dG (by kernel_rfl)|fail);(conv=>whnf)))
     exact hn16 _ () hc14 (weak_gen [] rfl rfl storeLe.nil slotsLe.nil)
   ·clear hc14 h16
    intro s3 hc19
    have e := Option.some.inj hc19; subst e
    ((conv=>whnf);repeat((first|apply TT mix|apply sE rfl|apply dG (by kernel_rfl)|fail);(conv=>whnf)))
    exact And.intro (AV.Le.refl _) rfl
theorem c_utf_fault (p_at : Int) (p_e : Er) (r : Er) (h : m_utf_fault p_at p_e = some r) : Contract pl 104 [(AV.int .i64 p_at), (AV.err p_e)] [] (AV.err r) [] := by
 refine contract_of .z Tryd.func104 rfl (by kernel_rfl) ?_
 have e := Option.some.inj h; subst e
 ((conv=>whnf);repeat((first|apply TT mix|apply sE rfl|apply dG (by kernel_rfl)|fail);(conv=>whnf)))
 exact And.intro (AV.Le.err_box (AV.Le.refl _)) rfl
theorem c_utf_first (p_b : Int) (r : Int × Int × Int × Int) (h : m_utf_first p_b = some r) : Contract pl 105 [(AV.int .u8 p_b)] [] (AV.tup [(AV.int .i64 r.1), (AV.int .i32 r.2.1), (AV.int .u8 r.2.2.1), (AV.int .u8 r.2.2.2)]) [] := by
 refine contract_of (.t false .z (.t false .z (.t true .z .z))) Tryd.func105 rfl (by kernel_rfl) ?_
 ((conv=>whnf);repeat((first|apply TT mix|apply sE rfl|apply dG (by kernel_rfl)|fail);(conv=>whnf)))
 refine bnd h (fun x4 h4 h => ?_)
 refine cut_at (fun s1 : Int => mkF 52 [(0, (.int .u8 p_b)), (2, (.int .i64 s1)), (4, (.int .u8 (128 : Int))), (5, (.int .u8 (191 : Int)))] []) (fun s1 : Int => m_utf_first_K2 p_b s1 = some r) ?_ ?_
 ·intro Kn4 hn4
  ((conv=>whnf);repeat((first|apply TT mix|apply sE rfl|apply dG (by kernel_rfl)|fail);(conv=>whnf)))
  refine br_b rfl h4 (fun c5 h4 => ?_) (fun c5 h4 => ?_)
  ·have e := Option.some.inj h4; subst e
   have e := Option.some.inj h; subst e
   ((conv=>whnf);repeat((first|apply TT mix|apply sE rfl|apply dG (by kernel_rfl)|fail);(conv=>whnf)))
   exact And.intro (AV.Le.refl _) rfl
  ·((conv=>whnf);repeat((first|apply TT mix|apply sE rfl|apply dG (by kernel_rfl)|fail);(conv=>whnf)))
   refine br_b rfl h4 (fun c6 h4 => ?_) (fun c6 h4 => ?_)
   ·have e := Option.some.inj h4; subst e
    ((conv=>whnf);repeat((first|apply TT mix|apply sE rfl|apply dG (by kernel_rfl)|fail);(conv=>whnf)))
    exact hn4 _ (IntKind.wrap .i64 ((IntKind.wrap .i64 ((IntKind.wrap .i64 ((0 : Int) + (1 : Int))) + (1 : Int))) + (1 : Int))) h (weak_gen [] rfl rfl storeLe.nil (sQ rfl rfl))
   ·((conv=>whnf);repeat((first|apply TT mix|apply sE rfl|apply dG (by kernel_rfl)|fail);(conv=>whnf)))
    refine br_b rfl h4 (fun c7 h4 => ?_) (fun c7 h4 => ?_)
    ·have e := Option.some.inj h4; subst e
     ((conv=>whnf);repeat((first|apply TT mix|apply sE rfl|apply dG (by kernel_rfl)|fail);(conv=>whnf)))
     exact hn4 _ (IntKind.wrap .i64 ((IntKind.wrap .i64 ((0 : Int) + (1 : Int))) + (1 : Int))) h (weak_gen [] rfl rfl storeLe.nil (sQ rfl rfl))
    ·((conv=>whnf);repeat((first|apply TT mix|apply sE rfl|apply dG (by kernel_rfl)|fail);(conv=>whnf)))
     refine br_b rfl h4 (fun c8 h4 => ?_) (fun c8 h4 => ?_)
     ·have e := Option.some.inj h4; subst e
      ((conv=>whnf);repeat((first|apply TT mix|apply sE rfl|apply dG (by kernel_rfl)|fail);(conv=>whnf)))
      exact hn4 _ (IntKind.wrap .i64 ((0 : Int) + (1 : Int))) h (weak_gen [] rfl rfl storeLe.nil (sQ rfl rfl))
     ·((conv=>whnf);repeat((first|apply TT mix|apply sE rfl|apply dG (by kernel_rfl)|fail);(conv=>whnf)))
      refine br_b rfl h4 (fun c9 h4 => ?_) (fun c9 h4 => ?_)
      ·have e := Option.some.inj h4; subst e
       have e := Option.some.inj h; subst e
       ((conv=>whnf);repeat((first|apply TT mix|apply sE rfl|apply dG (by kernel_rfl)|fail);(conv=>whnf)))
       exact And.intro (AV.Le.refl _) rfl
      ·have e := Option.some.inj h4; subst e
       have e := Option.some.inj h; subst e
       ((conv=>whnf);repeat((first|apply TT mix|apply sE rfl|apply dG (by kernel_rfl)|fail);(conv=>whnf)))
       exact And.intro (AV.Le.refl _) rfl
 ·clear h h4
  intro s1 hc10
  ((conv=>whnf);repeat((first|apply TT mix|apply sE rfl|apply dG (by kernel_rfl)|fail);(conv=>whnf)))
  refine br_b rfl hc10 (fun c11 hc10 => ?_) (fun c11 hc10 => ?_)
  ·((conv=>whnf);repeat((first|apply TT mix|apply sE rfl|apply dG (by kernel_rfl)|fail);(conv=>whnf)))
   refine grd1 rfl hc10 (fun hc10 => ?_)
   have e := Option.some.inj hc10; subst e
   ((conv=>whnf);repeat((first|apply TT mix|apply sE rfl|apply dG (by kernel_rfl)|fail);(conv=>whnf)))
   exact And.intro (AV.Le.refl _) rfl
  ·((conv=>whnf);repeat((first|apply TT mix|apply sE rfl|apply dG (by kernel_rfl)|fail);(conv=>whnf)))
   refine br_b rfl hc10 (fun c12 hc10 => ?_) (fun c12 hc10 => ?_)
   ·((conv=>whnf);repeat((first|apply TT mix|apply sE rfl|apply dG (by kernel_rfl)|fail);(conv=>whnf)))
    refine grd1 rfl hc10 (fun hc10 => ?_)
    have e := Option.some.inj hc10; subst e
    ((conv=>whnf);repeat((first|apply TT mix|apply sE rfl|apply dG (by kernel_rfl)|fail);(conv=>whnf)))
    exact And.intro (AV.Le.refl _) rfl
   ·((conv=>whnf);repeat((first|apply TT mix|apply sE rfl|apply dG (by kernel_rfl)|fail);(conv=>whnf)))
    refine br_b rfl hc10 (fun c13 hc10 => ?_) (fun c13 hc10 => ?_)
    ·((conv=>whnf);repeat((first|apply TT mix|apply sE rfl|apply dG (by kernel_rfl)|fail);(conv=>whnf)))
     refine grd1 rfl hc10 (fun hc10 => ?_)
     have e := Option.some.inj hc10; subst e
     ((conv=>whnf);repeat((first|apply TT mix|apply sE rfl|apply dG (by kernel_rfl)|fail);(conv=>whnf)))
     exact And.intro (AV.Le.refl _) rfl
    ·((conv=>whnf);repeat((first|apply TT mix|apply sE rfl|apply dG (by kernel_rfl)|fail);(conv=>whnf)))
     refine br_b rfl hc10 (fun c14 hc10 => ?_) (fun c14 hc10 => ?_)
     ·((conv=>whnf);repeat((first|apply TT mix|apply sE rfl|apply dG (by kernel_rfl)|fail);(conv=>whnf)))
      refine grd1 rfl hc10 (fun hc10 => ?_)
      have e := Option.some.inj hc10; subst e
      ((conv=>whnf);repeat((first|apply TT mix|apply sE rfl|apply dG (by kernel_rfl)|fail);(conv=>whnf)))
      exact And.intro (AV.Le.refl _) rfl
     ·((conv=>whnf);repeat((first|apply TT mix|apply sE rfl|apply dG (by kernel_rfl)|fail);(conv=>whnf)))
      refine grd1 rfl hc10 (fun hc10 => ?_)
      have e := Option.some.inj hc10; subst e
      ((conv=>whnf);repeat((first|apply TT mix|apply sE rfl|apply dG (by kernel_rfl)|fail);(conv=>whnf)))
      exact And.intro (AV.Le.refl _) rfl
theorem c_utf_Next (p_s : ByteArray) (p_at : Int) (r : Int × Int × Er) (h : m_utf_Next p_s p_at = some r) : Contract pl 80 [(AV.str p_s), (AV.int .i64 p_at)] [] (AV.tup [(AV.int .i32 r.1), (AV.int .i64 r.2.1), (AV.err r.2.2)]) [] := by
 refine contract_of (.t false .z (.t false (.t true .z .z) (.t false .z (.t false .z (.t true (.t false .z (.t false (.t false (.t false .z (.t false (.t false (.t false .z (.t false .z (.t false (.t true .z .z) .z))) .z) .z)) .z) .z)) .z))))) Tryd.func80 rfl (by kernel_rfl) ?_
 ((conv=>whnf);repeat((first|apply TT mix|apply sE rfl|apply dG (by kernel_rfl)|fail);(conv=>whnf)))
 refine bnd h (fun x19 h19 h => ?_)
 refine cut_at (fun s1 : Bool => mkF 76 [(0, (.str p_s)), (1, (.int .i64 p_at)), (19, (.bool s1))] []) (fun s1 : Bool => m_utf_Next_K2 p_s p_at s1 = some r) ?_ ?_
 ·intro Kn19 hn19
  ((conv=>whnf);repeat((first|apply TT mix|apply sE rfl|apply dG (by kernel_rfl)|fail);(conv=>whnf)))
  refine br_b rfl h19 (fun c20 h19 => ?_) (fun c20 h19 => ?_)
  ·have e := Option.some.inj h19; subst e
   ((conv=>whnf);repeat((first|apply TT mix|apply sE rfl|apply dG (by kernel_rfl)|fail);(conv=>whnf)))
   exact hn19 _ true h (weak_gen [] rfl rfl storeLe.nil (sQ rfl rfl))
  ·have e := Option.some.inj h19; subst e
   ((conv=>whnf);repeat((first|apply TT mix|apply sE rfl|apply dG (by kernel_rfl)|fail);(conv=>whnf)))
   exact hn19 _ (decide (p_at ≥ ((p_s.size : Nat) : Int))) h (weak_gen [] rfl rfl storeLe.nil (sQ rfl rfl))
 ·clear h h19
  intro s1 hc21
  ((conv=>whnf);repeat((first|apply TT mix|apply sE rfl|apply dG (by kernel_rfl)|fail);(conv=>whnf)))
  refine br_b rfl hc21 (fun c22 hc21 => ?_) (fun c22 hc21 => ?_)
  ·((conv=>whnf);repeat((first|apply TT mix|apply sE rfl|apply dG (by kernel_rfl)|fail);(conv=>whnf)))
   refine bnd hc21 (fun y3 hy3 hc21 => ?_)
   refine Or.inl ⟨_, c_utf_fault _ _ _ hy3, rfl, ?_⟩
   have e := Option.some.inj hc21; subst e
   ((conv=>whnf);repeat((first|apply TT mix|apply sE rfl|apply dG (by kernel_rfl)|fail);(conv=>whnf)))
   exact And.intro (AV.Le.refl _) rfl
  ·((conv=>whnf);repeat((first|apply TT mix|apply sE rfl|apply dG (by kernel_rfl)|fail);(conv=>whnf)))
   refine grd2 rfl rfl hc21 (fun hc21 => ?_)
   ((conv=>whnf);repeat((first|apply TT mix|apply sE rfl|apply dG (by kernel_rfl)|fail);(conv=>whnf)))
   refine bnd hc21 (fun y4 hy4 hc21 => ?_)
   refine Or.inl ⟨_, c_utf_first _ _ hy4, rfl, ?_⟩
   ((conv=>whnf);repeat((first|apply TT mix|apply sE rfl|apply dG (by kernel_rfl)|fail);(conv=>whnf)))
   refine br_b rfl hc21 (fun c23 hc21 => ?_) (fun c23 hc21 => ?_)
   ·((conv=>whnf);repeat((first|apply TT mix|apply sE rfl|apply dG (by kernel_rfl)|fail);(conv=>whnf)))
    refine bnd hc21 (fun y5 hy5 hc21 => ?_)
    refine Or.inl ⟨_, c_utf_fault _ _ _ hy5, rfl, ?_⟩
    have e := Option.some.inj hc21; subst e
    ((conv=>whnf);repeat((first|apply TT mix|apply sE rfl|apply dG (by kernel_rfl)|fail);(conv=>whnf)))
    exact And.intro (AV.Le.refl _) rfl
   ·((conv=>whnf);repeat((first|apply TT mix|apply sE rfl|apply dG (by kernel_rfl)|fail);(conv=>whnf)))
    refine bnd hc21 (fun x24 h24 hc21 => ?_)
    refine cut_at (fun s6 : Int => mkF 76 [(4, (.int .i32 s6)), (7, (.int .i64 y4.1))] []) (fun s6 : Int => some (s6, (IntKind.wrap .i64 (y4.1 + (1 : Int))), Er.nil) = some r) ?_ ?_
    ·intro Kn24 hn24
     ((conv=>whnf);repeat((first|apply TT mix|apply sE rfl|apply dG (by kernel_rfl)|fail);(conv=>whnf)))
     refine loop_iter (fun s9 : Int × Int × Int × Int => mkF 76 [(0, (.str p_s)), (1, (.int .i64 p_at)), (4, (.int .i32 s9.1)), (7, (.int .i64 y4.1)), (8, (.int .u8 s9.2.1)), (9, (.int .u8 s9.2.2.1)), (10, (.int .i64 s9.2.2.2))] []) h24 (weak_gen [] rfl rfl storeLe.nil (sQ rfl rfl)) ?_
     intro k11 s9 st11 Kn11 hn11 h11_ hs11
     ((conv=>whnf);repeat((first|apply TT mix|apply sE rfl|apply dG (by kernel_rfl)|fail);(conv=>whnf)))
     refine br_b rfl h11_ (fun c25 h11_ => ?_) (fun c25 h11_ => ?_)
     ·((conv=>whnf);repeat((first|apply TT mix|apply sE rfl|apply dG (by kernel_rfl)|fail);(conv=>whnf)))
      refine br_b rfl h11_ (fun c26 h11_ => ?_) (fun c26 h11_ => ?_)
      ·((conv=>whnf);repeat((first|apply TT mix|apply sE rfl|apply dG (by kernel_rfl)|fail);(conv=>whnf)))
       refine bnd h11_ (fun y12 hy12 h11_ => ?_)
       refine Or.inl ⟨_, c_utf_fault _ _ _ hy12, rfl, ?_⟩
       have e := Option.some.inj h11_; subst e
       have e := done_out hs11; subst e
       have e := Option.some.inj hc21; subst e
       ((conv=>whnf);repeat((first|apply TT mix|apply sE rfl|apply dG (by kernel_rfl)|fail);(conv=>whnf)))
       exact And.intro (AV.Le.refl _) rfl
      ·((conv=>whnf);repeat((first|apply TT mix|apply sE rfl|apply dG (by kernel_rfl)|fail);(conv=>whnf)))
       refine grd2 rfl rfl h11_ (fun h11_ => ?_)
       ((conv=>whnf);repeat((first|apply TT mix|apply sE rfl|apply dG (by kernel_rfl)|fail);(conv=>whnf)))
       refine bnd h11_ (fun x27 h27 h11_ => ?_)
       refine cut_at (fun s13 : Bool => mkF 76 [(0, (.str p_s)), (1, (.int .i64 p_at)), (4, (.int .i32 s9.1)), (7, (.int .i64 y4.1)), (10, (.int .i64 s9.2.2.2)), (11, (.int .u8 (bt p_s (IntKind.wrap .i64 (p_at + s9.2.2.2))))), (63, (.bool s13))] []) (fun s13 : Bool => m_utf_Next_K14 p_s p_at s9 s13 = some st11) ?_ ?_
       ·intro Kn27 hn27
        ((conv=>whnf);repeat((first|apply TT mix|apply sE rfl|apply dG (by kernel_rfl)|fail);(conv=>whnf)))
        refine br_b rfl h27 (fun c28 h27 => ?_) (fun c28 h27 => ?_)
        ·have e := Option.some.inj h27; subst e
         ((conv=>whnf);repeat((first|apply TT mix|apply sE rfl|apply dG (by kernel_rfl)|fail);(conv=>whnf)))
         exact hn27 _ true h11_ (weak_gen [] rfl rfl storeLe.nil (sQ rfl rfl))
        ·have e := Option.some.inj h27; subst e
         ((conv=>whnf);repeat((first|apply TT mix|apply sE rfl|apply dG (by kernel_rfl)|fail);(conv=>whnf)))
         exact hn27 _ (decide ((bt p_s (IntKind.wrap .i64 (p_at + s9.2.2.2))) > s9.2.2.1)) h11_ (weak_gen [] rfl rfl storeLe.nil (sQ rfl rfl))
       ·clear h11_ h27
        intro s13 hc29
        ((conv=>whnf);repeat((first|apply TT mix|apply sE rfl|apply dG (by kernel_rfl)|fail);(conv=>whnf)))
        refine br_b rfl hc29 (fun c30 hc29 => ?_) (fun c30 hc29 => ?_)
        ·((conv=>whnf);repeat((first|apply TT mix|apply sE rfl|apply dG (by kernel_rfl)|fail);(conv=>whnf)))
         refine bnd hc29 (fun y15 hy15 hc29 => ?_)
         refine Or.inl ⟨_, c_utf_fault _ _ _ hy15, rfl, ?_⟩
         have e := Option.some.inj hc29; subst e
         have e := done_out hs11; subst e
         have e := Option.some.inj hc21; subst e
         ((conv=>whnf);repeat((first|apply TT mix|apply sE rfl|apply dG (by kernel_rfl)|fail);(conv=>whnf)))
         exact And.intro (AV.Le.refl _) rfl
        ·((conv=>whnf);repeat((first|apply TT mix|apply sE rfl|apply dG (by kernel_rfl)|fail);(conv=>whnf)))
         refine And.intro (by decide) ?_
         have e := Option.some.inj hc29; subst e
         ((conv=>whnf);repeat((first|apply TT mix|apply sE rfl|apply dG (by kernel_rfl)|fail);(conv=>whnf)))
         exact hn11 _ ((ior .i32 (IntKind.wrap .i32 (s9.1 * 64)) (IntKind.wrap .i32 (iand .u8 (bt p_s (IntKind.wrap .i64 (p_at + s9.2.2.2))) (63 : Int)))), (128 : Int), (191 : Int), (IntKind.wrap .i64 (s9.2.2.2 + (1 : Int)))) hs11 (weak_gen [] rfl rfl storeLe.nil (sQ rfl rfl))
     ·have e := Option.some.inj h11_; subst e
      have e := done_out hs11; subst e
      ((conv=>whnf);repeat((first|apply TT mix|apply sE rfl|apply dG (by kernel_rfl)|fail);(conv=>whnf)))
      exact hn24 _ s9.1 hc21 (weak_gen [] rfl rfl storeLe.nil (sQ rfl rfl))
    ·clear hc21 h24
     intro s6 hc31
     have e := Option.some.inj hc31; subst e
     ((conv=>whnf);repeat((first|apply TT mix|apply sE rfl|apply dG (by kernel_rfl)|fail);(conv=>whnf)))
     exact And.intro (AV.Le.tup (argsLe.cons (AV.Le.refl _) (argsLe.cons (AV.Le.refl _) (argsLe.cons (AV.Le.err_nil) argsLe.nil)))) rfl
theorem c_utf_Decode (p_s : ByteArray) (r : (List Int) × Er) (h : m_utf_Decode p_s = some r) : Contract pl 59 [(AV.str p_s)] [] (AV.tup [(e_L_i32 r.1), (AV.err r.2)]) [] := by
 refine contract_of (.t false .z (.t false .z (.t true .z .z))) Tryd.func59 rfl (by kernel_rfl) ?_
 ((conv=>whnf);repeat((first|apply TT mix|apply sE rfl|apply dG (by kernel_rfl)|fail);(conv=>whnf)))
 refine bnd h (fun x11 h11 h => ?_)
 refine cut_at (fun s1 : (List Int) => mkF 31 [(4, (.ms 0 s1.length))] [some ⟨1, 21, (.ints .i32 s1), false, true⟩]) (fun s1 : (List Int) => some (s1, Er.nil) = some r) ?_ ?_
 ·intro Kn11 hn11
  ((conv=>whnf);repeat((first|apply TT mix|apply sE rfl|apply dG (by kernel_rfl)|fail);(conv=>whnf)))
  refine loop_iter (fun s4 : (List Int) × Int => mkF 31 [(0, (.str p_s)), (4, (.ms 0 s4.1.length)), (5, (.int .i64 s4.2))] [some ⟨1, 21, (.ints .i32 s4.1), false, true⟩]) h11 (weak_trans (weak_nil 4 1 21 (.ints .i32 []) _ rfl rfl trivial (Nat.zero_le _)) (weak_gen [0] rfl rfl (sK rfl (rowLe_ints (by first | rfl | simp)) storeLe.nil) (sQ rfl rfl))) ?_
  intro k6 s4 st6 Kn6 hn6 h6_ hs6
  ((conv=>whnf);repeat((first|apply TT mix|apply sE rfl|apply dG (by kernel_rfl)|fail);(conv=>whnf)))
  refine br_b rfl h6_ (fun c12 h6_ => ?_) (fun c12 h6_ => ?_)
  ·((conv=>whnf);repeat((first|apply TT mix|apply sE rfl|apply dG (by kernel_rfl)|fail);(conv=>whnf)))
   refine bnd h6_ (fun y7 hy7 h6_ => ?_)
   refine Or.inl ⟨_, c_utf_Next _ _ _ hy7, rfl, ?_⟩
   ((conv=>whnf);repeat((first|apply TT mix|apply sE rfl|apply dG (by kernel_rfl)|fail);(conv=>whnf)))
   refine br_b rfl h6_ (fun c13 h6_ => ?_) (fun c13 h6_ => ?_)
   ·have e := Option.some.inj h6_; subst e
    have e := done_out hs6; subst e
    have e := Option.some.inj h; subst e
    ((conv=>whnf);repeat((first|apply TT mix|apply sE rfl|apply dG (by kernel_rfl)|fail);(conv=>whnf)))
    exact And.intro (AV.Le.tup (argsLe.cons (AV.Le.list rfl (fun j hj => absurd hj (Nat.not_lt_zero _))) (argsLe.cons (AV.Le.refl _) argsLe.nil))) rfl
   ·((conv=>whnf);repeat((first|apply TT mix|apply sE rfl|apply dG (by kernel_rfl)|fail);(conv=>whnf)))
    obtain ⟨p14, h6_⟩ := grdO h6_
    refine ⟨[], 1, (.ints .i32 [y7.1]), ⟨by simp [Row.len] <;> omega, rfl, _, rfl, by simp [Row.len] <;> omega, fun j hj => .inl rfl⟩, trivial, fun j hj => rfl, ?_⟩
    conv => whnf
    refine ⟨by simp [Row.len]; try omega, p14, by omega, ?_⟩
    have e := Option.some.inj h6_; subst e
    ((conv=>whnf);repeat((first|apply TT mix|apply sE rfl|apply dG (by kernel_rfl)|fail);(conv=>whnf)))
    exact hn6 _ ((s4.1 ++ [y7.1]), (IntKind.wrap .i64 (s4.2 + y7.2.1))) hs6 (weak_gen [2] rfl rfl (sK rfl (rowLe_ints (by first | rfl | simp)) storeLe.nil) (slotsLe.cons (cR rfl rfl) (slotsLe.cons (And.intro rfl (AV.Le.of_eq (congrArg (AV.ms _) (by first | rfl | omega | (simp; omega) | simp)))) (slotsLe.cons (cR rfl rfl) slotsLe.nil))))
  ·have e := Option.some.inj h6_; subst e
   have e := done_out hs6; subst e
   ((conv=>whnf);repeat((first|apply TT mix|apply sE rfl|apply dG (by kernel_rfl)|fail);(conv=>whnf)))
   exact hn11 _ s4.1 h (weak_gen [0] rfl rfl (sK rfl (rowLe_ints (by first | rfl | simp)) storeLe.nil) (slotsLe.cons (And.intro rfl (AV.Le.of_eq (congrArg (AV.ms _) (by first | rfl | omega | (simp; omega) | simp)))) slotsLe.nil))
 ·clear h h11
  intro s1 hc15
  have e := Option.some.inj hc15; subst e
  ((conv=>whnf);repeat((first|apply TT mix|apply sE rfl|apply dG (by kernel_rfl)|fail);(conv=>whnf)))
  exact And.intro (AV.Le.tup (argsLe.cons (AV.Le.refl _) (argsLe.cons (AV.Le.err_nil) argsLe.nil))) rfl
theorem c_utf_Valid (p_s : ByteArray) (r : Bool) (h : m_utf_Valid p_s = some r) : Contract pl 30 [(AV.str p_s)] [] (AV.bool r) [] := by
 refine contract_of .z Tryd.func30 rfl (by kernel_rfl) ?_
 ((conv=>whnf);repeat((first|apply TT mix|apply sE rfl|apply dG (by kernel_rfl)|fail);(conv=>whnf)))
 refine bnd h (fun y1 hy1 h => ?_)
 refine Or.inl ⟨_, c_utf_Decode _ _ hy1, rfl, ?_⟩
 ((conv=>whnf);repeat((first|apply TT mix|apply sE rfl|apply dG (by kernel_rfl)|fail);(conv=>whnf)))
 refine br_e h (fun hx h => ?_) (fun hx h => ?_)
 ·refine Or.inr (own_intro (own_call [0] (c_errors_As_nil _ hx) rfl (storeLe.cons rfl (objLe.mk (by intro hf; first | exact hf | rfl) (by intro hf; first | exact hf | rfl) (rowLe_vals (valsLe.cons (cellsLe_refl rfl) valsLe.nil))) storeLe.nil) (cellsLe.cons (And.intro rfl (AV.Le.refl _)) (cellsLe.cons (And.intro rfl (AV.Le.refl _)) cellsLe.nil)) rfl) ?_)
  have e := Option.some.inj h; subst e
  ((conv=>whnf);repeat((first|apply TT mix|apply sE rfl|apply dG (by kernel_rfl)|fail);(conv=>whnf)))
  exact And.intro (AV.Le.refl _) rfl
 ·((conv=>whnf);repeat((first|apply TT mix|apply sE rfl|apply dG (by kernel_rfl)|fail);(conv=>whnf)))
  refine bnd h (fun y2 hy2 h => ?_)
  refine Or.inr (own_intro (own_call [0] (c_errors_As _ _ hy2) rfl (storeLe.cons rfl (objLe.mk (by intro hf; first | exact hf | rfl) (by intro hf; first | exact hf | rfl) (rowLe_vals (valsLe.cons (cellsLe_refl rfl) valsLe.nil))) storeLe.nil) (cellsLe.cons (And.intro rfl (AV.Le.refl _)) (cellsLe.cons (And.intro rfl (AV.Le.refl _)) cellsLe.nil)) rfl) ?_)
  have e := Option.some.inj h; subst e
  ((conv=>whnf);repeat((first|apply TT mix|apply sE rfl|apply dG (by kernel_rfl)|fail);(conv=>whnf)))
  exact And.intro (AV.Le.refl _) rfl
theorem c_variants_fault (p_at : Int) (p_e : Er) (r : Er) (h : m_variants_fault p_at p_e = some r) : Contract pl 31 [(AV.int .i64 p_at), (AV.err p_e)] [] (AV.err r) [] := by
 refine contract_of .z Tryd.func31 rfl (by kernel_rfl) ?_
 have e := Option.some.inj h; subst e
 ((conv=>whnf);repeat((first|apply TT mix|apply sE rfl|apply dG (by kernel_rfl)|fail);(conv=>whnf)))
 exact And.intro (AV.Le.err_box (AV.Le.refl _)) rfl
theorem c_utf_Right (p_r : Int) (r : Bool) (h : m_utf_Right p_r = some r) : Contract pl 42 [(AV.int .i32 p_r)] [] (AV.bool r) [] := by
 refine contract_of .z Tryd.func42 rfl (by kernel_rfl) ?_
 ((conv=>whnf);repeat((first|apply TT mix|apply sE rfl|apply dG (by kernel_rfl)|fail);(conv=>whnf)))
 refine br_b rfl h (fun c1 h => ?_) (fun c1 h => ?_)
 ·((conv=>whnf);repeat((first|apply TT mix|apply sE rfl|apply dG (by kernel_rfl)|fail);(conv=>whnf)))
  refine br_b rfl h (fun c2 h => ?_) (fun c2 h => ?_)
  ·((conv=>whnf);repeat((first|apply TT mix|apply sE rfl|apply dG (by kernel_rfl)|fail);(conv=>whnf)))
   refine br_b rfl h (fun c3 h => ?_) (fun c3 h => ?_)
   ·have e := Option.some.inj h; subst e
    ((conv=>whnf);repeat((first|apply TT mix|apply sE rfl|apply dG (by kernel_rfl)|fail);(conv=>whnf)))
    exact And.intro (AV.Le.refl _) rfl
   ·have e := Option.some.inj h; subst e
    ((conv=>whnf);repeat((first|apply TT mix|apply sE rfl|apply dG (by kernel_rfl)|fail);(conv=>whnf)))
    exact And.intro (AV.Le.refl _) rfl
  ·have e := Option.some.inj h; subst e
   ((conv=>whnf);repeat((first|apply TT mix|apply sE rfl|apply dG (by kernel_rfl)|fail);(conv=>whnf)))
   exact And.intro (AV.Le.refl _) rfl
 ·have e := Option.some.inj h; subst e
  ((conv=>whnf);repeat((first|apply TT mix|apply sE rfl|apply dG (by kernel_rfl)|fail);(conv=>whnf)))
  exact And.intro (AV.Le.refl _) rfl
theorem c_variants_setError (p_f : T_api_Family) (p_i : Int) (r : Er) (h : m_variants_setError p_f p_i = some r) : Contract pl 32 [(e_api_Family p_f), (AV.int .i64 p_i)] [] (AV.err r) [] := by
 refine contract_of (.t false .z (.t false .z (.t false .z (.t true .z (.t true .z (.t false (.t true .z .z) .z)))))) Tryd.func32 rfl (by kernel_rfl) ?_
 ((conv=>whnf);repeat((first|apply TT mix|apply sE rfl|apply dG (by kernel_rfl)|fail);(conv=>whnf)))
 refine grd2 rfl rfl h (fun h => ?_)
 ((conv=>whnf);repeat((first|apply TT mix|apply sE rfl|apply dG (by kernel_rfl)|fail);(conv=>whnf)))
 refine br_b rfl h (fun c22 h => ?_) (fun c22 h => ?_)
 ·have e := Option.some.inj h; subst e
  ((conv=>whnf);repeat((first|apply TT mix|apply sE rfl|apply dG (by kernel_rfl)|fail);(conv=>whnf)))
  exact And.intro (AV.Le.refl _) rfl
 ·((conv=>whnf);repeat((first|apply TT mix|apply sE rfl|apply dG (by kernel_rfl)|fail);(conv=>whnf)))
  refine bnd h (fun x23 h23 h => ?_)
  refine cut_at (fun s1 : Unit => mkF 63 [(1, (.int .i64 p_i)), (2, (.mp 0 0 0)), (5, (e_L_i32 (p_f.f_Sets.getD (p_i.toNat) [])))] [some ⟨2, 24, (.vals [(e_api_Family p_f)]), false, false⟩]) (fun s1 : Unit => m_variants_setError_K2 p_f p_i s1 = some r) ?_ ?_
  ·intro Kn23 hn23
   ((conv=>whnf);repeat((first|apply TT mix|apply sE rfl|apply dG (by kernel_rfl)|fail);(conv=>whnf)))
   refine loop_iter (fun s15 : Int => mkF 63 [(1, (.int .i64 p_i)), (2, (.mp 0 0 0)), (5, (e_L_i32 (p_f.f_Sets.getD (p_i.toNat) []))), (18, (e_L_i32 (p_f.f_Sets.getD (p_i.toNat) []))), (19, (.int .i64 (((p_f.f_Sets.getD (p_i.toNat) []).length : Nat) : Int))), (20, (.int .i64 s15))] [some ⟨2, 24, (.vals [(e_api_Family p_f)]), false, false⟩]) h23 (weak_gen [0] rfl rfl (sK rfl (rowLe_vals (valsLe.cons (cellsLe_refl rfl) valsLe.nil)) storeLe.nil) (sQ rfl rfl)) ?_
   intro k17 s15 st17 Kn17 hn17 h17_ hs17
   ((conv=>whnf);repeat((first|apply TT mix|apply sE rfl|apply dG (by kernel_rfl)|fail);(conv=>whnf)))
   refine br_b rfl h17_ (fun c24 h17_ => ?_) (fun c24 h17_ => ?_)
   ·((conv=>whnf);repeat((first|apply TT mix|apply sE rfl|apply dG (by kernel_rfl)|fail);(conv=>whnf)))
    refine grd2 rfl rfl h17_ (fun h17_ => ?_)
    ((conv=>whnf);repeat((first|apply TT mix|apply sE rfl|apply dG (by kernel_rfl)|fail);(conv=>whnf)))
    refine bnd h17_ (fun y18 hy18 h17_ => ?_)
    refine Or.inl ⟨_, c_utf_Right _ _ hy18, rfl, ?_⟩
    ((conv=>whnf);repeat((first|apply TT mix|apply sE rfl|apply dG (by kernel_rfl)|fail);(conv=>whnf)))
    refine br_b rfl h17_ (fun c25 h17_ => ?_) (fun c25 h17_ => ?_)
    ·have e := Option.some.inj h17_; subst e
     have e := done_out hs17; subst e
     have e := Option.some.inj h; subst e
     ((conv=>whnf);repeat((first|apply TT mix|apply sE rfl|apply dG (by kernel_rfl)|fail);(conv=>whnf)))
     exact And.intro (AV.Le.refl _) rfl
    ·have e := Option.some.inj h17_; subst e
     ((conv=>whnf);repeat((first|apply TT mix|apply sE rfl|apply dG (by kernel_rfl)|fail);(conv=>whnf)))
     exact hn17 _ (IntKind.wrap .i64 (s15 + (1 : Int))) hs17 (weak_gen [0] rfl rfl (sK rfl (rowLe_vals (valsLe.cons (cellsLe_refl rfl) valsLe.nil)) storeLe.nil) (sQ rfl rfl))
   ·have e := Option.some.inj h17_; subst e
    have e := done_out hs17; subst e
    ((conv=>whnf);repeat((first|apply TT mix|apply sE rfl|apply dG (by kernel_rfl)|fail);(conv=>whnf)))
    exact hn23 _ () h (weak_gen [0] rfl rfl (sK rfl (rowLe_vals (valsLe.cons (cellsLe_refl rfl) valsLe.nil)) storeLe.nil) (sQ rfl rfl))
  ·clear h h23
   intro s1 hc26
   ((conv=>whnf);repeat((first|apply TT mix|apply sE rfl|apply dG (by kernel_rfl)|fail);(conv=>whnf)))
   refine bnd hc26 (fun x27 h27 hc26 => ?_)
   refine cut_at (fun s3 : Unit => mkF 63 [(1, (.int .i64 p_i)), (2, (.mp 0 0 0)), (5, (e_L_i32 (p_f.f_Sets.getD (p_i.toNat) [])))] [some ⟨2, 24, (.vals [(e_api_Family p_f)]), false, false⟩]) (fun s3 : Unit => m_variants_setError_K4 p_f p_i s3 = some r) ?_ ?_
   ·intro Kn27 hn27
    ((conv=>whnf);repeat((first|apply TT mix|apply sE rfl|apply dG (by kernel_rfl)|fail);(conv=>whnf)))
    refine loop_iter (fun s8 : Int => mkF 63 [(1, (.int .i64 p_i)), (2, (.mp 0 0 0)), (5, (e_L_i32 (p_f.f_Sets.getD (p_i.toNat) []))), (8, (.int .i64 s8))] [some ⟨2, 24, (.vals [(e_api_Family p_f)]), false, false⟩]) h27 (weak_gen [0] rfl rfl (sK rfl (rowLe_vals (valsLe.cons (cellsLe_refl rfl) valsLe.nil)) storeLe.nil) (sQ rfl rfl)) ?_
    intro k10 s8 st10 Kn10 hn10 h10_ hs10
    ((conv=>whnf);repeat((first|apply TT mix|apply sE rfl|apply dG (by kernel_rfl)|fail);(conv=>whnf)))
    refine br_b rfl h10_ (fun c28 h10_ => ?_) (fun c28 h10_ => ?_)
    ·((conv=>whnf);repeat((first|apply TT mix|apply sE rfl|apply dG (by kernel_rfl)|fail);(conv=>whnf)))
     refine grd2 rfl rfl h10_ (fun h10_ => ?_)
     ((conv=>whnf);repeat((first|apply TT mix|apply sE rfl|apply dG (by kernel_rfl)|fail);(conv=>whnf)))
     refine grd2 rfl rfl h10_ (fun h10_ => ?_)
     ((conv=>whnf);repeat((first|apply TT mix|apply sE rfl|apply dG (by kernel_rfl)|fail);(conv=>whnf)))
     refine br_b rfl h10_ (fun c29 h10_ => ?_) (fun c29 h10_ => ?_)
     ·have e := Option.some.inj h10_; subst e
      have e := done_out hs10; subst e
      have e := Option.some.inj hc26; subst e
      ((conv=>whnf);repeat((first|apply TT mix|apply sE rfl|apply dG (by kernel_rfl)|fail);(conv=>whnf)))
      exact And.intro (AV.Le.refl _) rfl
     ·have e := Option.some.inj h10_; subst e
      ((conv=>whnf);repeat((first|apply TT mix|apply sE rfl|apply dG (by kernel_rfl)|fail);(conv=>whnf)))
      exact hn10 _ (IntKind.wrap .i64 (s8 + (1 : Int))) hs10 (weak_gen [0] rfl rfl (sK rfl (rowLe_vals (valsLe.cons (cellsLe_refl rfl) valsLe.nil)) storeLe.nil) (sQ rfl rfl))
    ·have e := Option.some.inj h10_; subst e
     have e := done_out hs10; subst e
     ((conv=>whnf);repeat((first|apply TT mix|apply sE rfl|apply dG (by kernel_rfl)|fail);(conv=>whnf)))
     exact hn27 _ () hc26 (weak_gen [0] rfl rfl (sK rfl (rowLe_vals (valsLe.cons (cellsLe_refl rfl) valsLe.nil)) storeLe.nil) (sQ rfl rfl))
   ·clear hc26 h27
    intro s3 hc30
    ((conv=>whnf);repeat((first|apply TT mix|apply sE rfl|apply dG (by kernel_rfl)|fail);(conv=>whnf)))
    refine bnd hc30 (fun x31 h31 hc30 => ?_)
    refine cut_at (fun s5 : Bool => mkF 63 [(61, (.bool s5))] []) (fun s5 : Bool => m_variants_setError_K6 s5 = some r) ?_ ?_
    ·intro Kn31 hn31
     ((conv=>whnf);repeat((first|apply TT mix|apply sE rfl|apply dG (by kernel_rfl)|fail);(conv=>whnf)))
     refine br_b rfl h31 (fun c32 h31 => ?_) (fun c32 h31 => ?_)
     ·((conv=>whnf);repeat((first|apply TT mix|apply sE rfl|apply dG (by kernel_rfl)|fail);(conv=>whnf)))
      refine grd2 rfl rfl h31 (fun h31 => ?_)
      ((conv=>whnf);repeat((first|apply TT mix|apply sE rfl|apply dG (by kernel_rfl)|fail);(conv=>whnf)))
      refine grd2 rfl rfl h31 (fun h31 => ?_)
      ((conv=>whnf);repeat((first|apply TT mix|apply sE rfl|apply dG (by kernel_rfl)|fail);(conv=>whnf)))
      refine grd2 rfl rfl h31 (fun h31 => ?_)
      have e := Option.some.inj h31; subst e
      ((conv=>whnf);repeat((first|apply TT mix|apply sE rfl|apply dG (by kernel_rfl)|fail);(conv=>whnf)))
      exact hn31 _ (decide (((p_f.f_Sets.getD (p_i.toNat) []).getD 0 0) ≤ ((p_f.f_Sets.getD ((IntKind.wrap .i64 (p_i - (1 : Int))).toNat) []).getD 0 0))) hc30 (weak_gen [] rfl rfl storeLe.nil (slotsLe.cons (cR rfl rfl) slotsLe.nil))
     ·have e := Option.some.inj h31; subst e
      ((conv=>whnf);repeat((first|apply TT mix|apply sE rfl|apply dG (by kernel_rfl)|fail);(conv=>whnf)))
      exact hn31 _ false hc30 (weak_gen [] rfl rfl storeLe.nil (slotsLe.cons (cR rfl rfl) slotsLe.nil))
    ·clear hc30 h31
     intro s5 hc33
     ((conv=>whnf);repeat((first|apply TT mix|apply sE rfl|apply dG (by kernel_rfl)|fail);(conv=>whnf)))
     refine br_b rfl hc33 (fun c34 hc33 => ?_) (fun c34 hc33 => ?_)
     ·have e := Option.some.inj hc33; subst e
      ((conv=>whnf);repeat((first|apply TT mix|apply sE rfl|apply dG (by kernel_rfl)|fail);(conv=>whnf)))
      exact And.intro (AV.Le.refl _) rfl
     ·have e := Option.some.inj hc33; subst e
      ((conv=>whnf);repeat((first|apply TT mix|apply sE rfl|apply dG (by kernel_rfl)|fail);(conv=>whnf)))
      exact And.intro (AV.Le.err_nil) rfl
theorem c_variants_Check (p_f : T_api_Family) (r : Er) (h : m_variants_Check p_f = some r) : Contract pl 12 [(e_api_Family p_f)] [] (AV.err r) [] := by
 refine contract_of_gho (.t false .z (.t false (.w (.t true .z .z)) (.t false .z (.t true .z (.m (.t false (.t false .z (.t false (.t false (.t false .z (.t false .z (.t false (.t false (.t false .z (.t false .z (.t false .z (.t false (.t false (.t false .z (.t false .z (.t false (.t false (.t false .z (.t false (.t false (.t false .z .z) .z) (.t false .z .z))) .z) .z))) .z) .z)))) .z) .z))) .z) .z)) .z)))))) Tryd.func12 rfl (by kernel_rfl) fun G => ?_
 ((conv=>whnf);repeat((first|apply TT mix|apply MM 54 rfl|apply GG rfl|apply sE rfl|apply dG (by kernel_rfl)|(refine mregQ_of ⟨rfl, rfl, rfl, fun _ => rfl, rfl⟩ ?_)|fail);(conv=>whnf)))
 refine bnd h (fun x30 h30 h => ?_)
 refine cut_at (fun s1 : Bool => mkF 80 [(1, (.mp 0 0 0)), (27, (.bool s1))] [some ⟨2, 24, (.vals [(e_api_Family p_f)]), false, false⟩]) (fun s1 : Bool => m_variants_Check_K2 p_f s1 = some r) ?_ ?_
 ·intro Kn30 hn30
  ((conv=>whnf);repeat((first|apply TT mix|apply MM 54 rfl|apply GG rfl|apply sE rfl|apply dG (by kernel_rfl)|(refine mregQ_of ⟨rfl, rfl, rfl, fun _ => rfl, rfl⟩ ?_)|fail);(conv=>whnf)))
  refine br_b rfl h30 (fun c31 h30 => ?_) (fun c31 h30 => ?_)
  ·have e := Option.some.inj h30; subst e
   ((conv=>whnf);repeat((first|apply TT mix|apply MM 54 rfl|apply GG rfl|apply sE rfl|apply dG (by kernel_rfl)|(refine mregQ_of ⟨rfl, rfl, rfl, fun _ => rfl, rfl⟩ ?_)|fail);(conv=>whnf)))
   exact hn30 _ true h (weak_gen [0] rfl rfl (sK rfl (rowLe_vals (valsLe.cons (cellsLe_refl rfl) valsLe.nil)) storeLe.nil) (sQ rfl rfl))
  ·((conv=>whnf);repeat((first|apply TT mix|apply MM 54 rfl|apply GG rfl|apply sE rfl|apply dG (by kernel_rfl)|(refine mregQ_of ⟨rfl, rfl, rfl, fun _ => rfl, rfl⟩ ?_)|fail);(conv=>whnf)))
   refine br_b rfl h30 (fun c32 h30 => ?_) (fun c32 h30 => ?_)
   ·have e := Option.some.inj h30; subst e
    ((conv=>whnf);repeat((first|apply TT mix|apply MM 54 rfl|apply GG rfl|apply sE rfl|apply dG (by kernel_rfl)|(refine mregQ_of ⟨rfl, rfl, rfl, fun _ => rfl, rfl⟩ ?_)|fail);(conv=>whnf)))
    exact hn30 _ true h (weak_gen [0] rfl rfl (sK rfl (rowLe_vals (valsLe.cons (cellsLe_refl rfl) valsLe.nil)) storeLe.nil) (sQ rfl rfl))
   ·((conv=>whnf);repeat((first|apply TT mix|apply MM 54 rfl|apply GG rfl|apply sE rfl|apply dG (by kernel_rfl)|(refine mregQ_of ⟨rfl, rfl, rfl, fun _ => rfl, rfl⟩ ?_)|fail);(conv=>whnf)))
    refine bnd h30 (fun y29 hy29 h30 => ?_)
    refine Or.inl ⟨_, c_utf_Valid _ _ hy29, rfl, ?_⟩
    have e := Option.some.inj h30; subst e
    ((conv=>whnf);repeat((first|apply TT mix|apply MM 54 rfl|apply GG rfl|apply sE rfl|apply dG (by kernel_rfl)|(refine mregQ_of ⟨rfl, rfl, rfl, fun _ => rfl, rfl⟩ ?_)|fail);(conv=>whnf)))
    exact hn30 _ (!y29) h (weak_gen [0] rfl rfl (sK rfl (rowLe_vals (valsLe.cons (cellsLe_refl rfl) valsLe.nil)) storeLe.nil) (sQ rfl rfl))
 ·clear h h30
  intro s1 hc33
  ((conv=>whnf);repeat((first|apply TT mix|apply MM 54 rfl|apply GG rfl|apply sE rfl|apply dG (by kernel_rfl)|(refine mregQ_of ⟨rfl, rfl, rfl, fun _ => rfl, rfl⟩ ?_)|fail);(conv=>whnf)))
  refine br_b rfl hc33 (fun c34 hc33 => ?_) (fun c34 hc33 => ?_)
  ·((conv=>whnf);repeat((first|apply TT mix|apply MM 54 rfl|apply GG rfl|apply sE rfl|apply dG (by kernel_rfl)|(refine mregQ_of ⟨rfl, rfl, rfl, fun _ => rfl, rfl⟩ ?_)|fail);(conv=>whnf)))
   refine bnd hc33 (fun y3 hy3 hc33 => ?_)
   refine Or.inl ⟨_, c_variants_fault _ _ _ hy3, rfl, ?_⟩
   have e := Option.some.inj hc33; subst e
   ((conv=>whnf);repeat((first|apply TT mix|apply MM 54 rfl|apply GG rfl|apply sE rfl|apply dG (by kernel_rfl)|(refine mregQ_of ⟨rfl, rfl, rfl, fun _ => rfl, rfl⟩ ?_)|fail);(conv=>whnf)))
   exact And.intro (AV.Le.refl _) rfl
  ·((conv=>whnf);repeat((first|apply TT mix|apply MM 54 rfl|apply GG rfl|apply sE rfl|apply dG (by kernel_rfl)|(refine mregQ_of ⟨rfl, rfl, rfl, fun _ => rfl, rfl⟩ ?_)|fail);(conv=>whnf)))
   refine bnd hc33 (fun x35 h35 hc33 => ?_)
   refine cut_at (fun s4 : Unit => mkF 80 [(1, (.mp 0 0 0))] [some ⟨2, 24, (.vals [(e_api_Family p_f)]), false, false⟩]) (fun s4 : Unit => m_variants_Check_K5 p_f s4 = some r) ?_ ?_
   ·intro Kn35 hn35
    ((conv=>whnf);repeat((first|apply TT mix|apply MM 54 rfl|apply GG rfl|apply sE rfl|apply dG (by kernel_rfl)|(refine mregQ_of ⟨rfl, rfl, rfl, fun _ => rfl, rfl⟩ ?_)|fail);(conv=>whnf)))
    refine loop_iter (fun s22 : Int × Int => mkF 80 [(1, (.mp 0 0 0)), (3, (.int .i64 s22.1)), (31, (e_L_L_i32 p_f.f_Sets)), (32, (.int .i64 ((p_f.f_Sets.length : Nat) : Int))), (33, (.int .i64 s22.2))] [some ⟨2, 24, (.vals [(e_api_Family p_f)]), false, false⟩]) h35 (weak_gen [0] rfl rfl (sK rfl (rowLe_vals (valsLe.cons (cellsLe_refl rfl) valsLe.nil)) storeLe.nil) (sQ rfl rfl)) ?_
    intro k24 s22 st24 Kn24 hn24 h24_ hs24
    ((conv=>whnf);repeat((first|apply TT mix|apply MM 54 rfl|apply GG rfl|apply sE rfl|apply dG (by kernel_rfl)|(refine mregQ_of ⟨rfl, rfl, rfl, fun _ => rfl, rfl⟩ ?_)|fail);(conv=>whnf)))
    refine br_b rfl h24_ (fun c36 h24_ => ?_) (fun c36 h24_ => ?_)
    ·((conv=>whnf);repeat((first|apply TT mix|apply MM 54 rfl|apply GG rfl|apply sE rfl|apply dG (by kernel_rfl)|(refine mregQ_of ⟨rfl, rfl, rfl, fun _ => rfl, rfl⟩ ?_)|fail);(conv=>whnf)))
     refine grd2 rfl rfl h24_ (fun h24_ => ?_)
     ((conv=>whnf);repeat((first|apply TT mix|apply MM 54 rfl|apply GG rfl|apply sE rfl|apply dG (by kernel_rfl)|(refine mregQ_of ⟨rfl, rfl, rfl, fun _ => rfl, rfl⟩ ?_)|fail);(conv=>whnf)))
     refine br_b rfl h24_ (fun c37 h24_ => ?_) (fun c37 h24_ => ?_)
     ·((conv=>whnf);repeat((first|apply TT mix|apply MM 54 rfl|apply GG rfl|apply sE rfl|apply dG (by kernel_rfl)|(refine mregQ_of ⟨rfl, rfl, rfl, fun _ => rfl, rfl⟩ ?_)|fail);(conv=>whnf)))
      refine bnd h24_ (fun y25 hy25 h24_ => ?_)
      refine Or.inl ⟨_, c_variants_fault _ _ _ hy25, rfl, ?_⟩
      have e := Option.some.inj h24_; subst e
      have e := done_out hs24; subst e
      have e := Option.some.inj hc33; subst e
      ((conv=>whnf);repeat((first|apply TT mix|apply MM 54 rfl|apply GG rfl|apply sE rfl|apply dG (by kernel_rfl)|(refine mregQ_of ⟨rfl, rfl, rfl, fun _ => rfl, rfl⟩ ?_)|fail);(conv=>whnf)))
      exact And.intro (AV.Le.refl _) rfl
     ·have e := Option.some.inj h24_; subst e
      ((conv=>whnf);repeat((first|apply TT mix|apply MM 54 rfl|apply GG rfl|apply sE rfl|apply dG (by kernel_rfl)|(refine mregQ_of ⟨rfl, rfl, rfl, fun _ => rfl, rfl⟩ ?_)|fail);(conv=>whnf)))
      exact hn24 _ ((IntKind.wrap .i64 (s22.1 + (((p_f.f_Sets.getD (s22.2.toNat) []).length : Nat) : Int))), (IntKind.wrap .i64 (s22.2 + (1 : Int)))) hs24 (weak_gen [0] rfl rfl (sK rfl (rowLe_vals (valsLe.cons (cellsLe_refl rfl) valsLe.nil)) storeLe.nil) (sQ rfl rfl))
    ·have e := Option.some.inj h24_; subst e
     have e := done_out hs24; subst e
     ((conv=>whnf);repeat((first|apply TT mix|apply MM 54 rfl|apply GG rfl|apply sE rfl|apply dG (by kernel_rfl)|(refine mregQ_of ⟨rfl, rfl, rfl, fun _ => rfl, rfl⟩ ?_)|fail);(conv=>whnf)))
     exact hn35 _ () hc33 (weak_gen [0] rfl rfl (sK rfl (rowLe_vals (valsLe.cons (cellsLe_refl rfl) valsLe.nil)) storeLe.nil) (slotsLe.cons (cR rfl rfl) slotsLe.nil))
   ·clear hc33 h35
    intro s4 hc38
    ((conv=>whnf);repeat((first|apply TT mix|apply MM 54 rfl|apply GG rfl|apply sE rfl|apply dG (by kernel_rfl)|(refine mregQ_of ⟨rfl, rfl, rfl, fun _ => rfl, rfl⟩ ?_)|fail);(conv=>whnf)))
    refine Ymk 21 3 .i32 rfl rfl fun b => ?_
    ((conv=>whnf);repeat((first|apply TT mix|apply MM 54 rfl|apply GG rfl|apply sE rfl|apply dG (by kernel_rfl)|(refine mregQ_of ⟨rfl, rfl, rfl, fun _ => rfl, rfl⟩ ?_)|fail);(conv=>whnf)))
    refine bnd hc38 (fun x9 hx9 hc38 => ?_)
    refine gloop_iter (fun s7 : Int × (List Int) => mkF 80 [(1, (.mp 0 0 0)), (6, (.mapr b)), (48, (e_L_L_i32 p_f.f_Sets)), (49, (.int .i64 ((p_f.f_Sets.length : Nat) : Int))), (50, (.int .i64 s7.1))] [some ⟨2, 24, (.vals [(e_api_Family p_f)]), false, false⟩]) (fun s7 : Int × (List Int) => (s7.2.map (AV.int .i32))) hx9 (weak_gen [0] rfl rfl (sK rfl (rowLe_vals (valsLe.cons (cellsLe_refl rfl) valsLe.nil)) storeLe.nil) (sQ rfl rfl)) rfl ?_
    intro k9 s7 st9 Kn9 hn9 h9 hs9
    ((conv=>whnf);repeat((first|apply TT mix|apply MM 54 rfl|apply GG rfl|apply sE rfl|apply dG (by kernel_rfl)|(refine mregQ_of ⟨rfl, rfl, rfl, fun _ => rfl, rfl⟩ ?_)|fail);(conv=>whnf)))
    refine br_b rfl h9 (fun c39 h9 => ?_) (fun c39 h9 => ?_)
    ·((conv=>whnf);repeat((first|apply TT mix|apply MM 54 rfl|apply GG rfl|apply sE rfl|apply dG (by kernel_rfl)|(refine mregQ_of ⟨rfl, rfl, rfl, fun _ => rfl, rfl⟩ ?_)|fail);(conv=>whnf)))
     refine grd2 rfl rfl h9 (fun h9 => ?_)
     ((conv=>whnf);repeat((first|apply TT mix|apply MM 54 rfl|apply GG rfl|apply sE rfl|apply dG (by kernel_rfl)|(refine mregQ_of ⟨rfl, rfl, rfl, fun _ => rfl, rfl⟩ ?_)|fail);(conv=>whnf)))
     refine bnd h9 (fun y10 hy10 h9 => ?_)
     refine Or.inl ⟨_, c_variants_setError _ _ _ hy10, rfl, ?_⟩
     ((conv=>whnf);repeat((first|apply TT mix|apply MM 54 rfl|apply GG rfl|apply sE rfl|apply dG (by kernel_rfl)|(refine mregQ_of ⟨rfl, rfl, rfl, fun _ => rfl, rfl⟩ ?_)|fail);(conv=>whnf)))
     refine br_b rfl h9 (fun c40 h9 => ?_) (fun c40 h9 => ?_)
     ·((conv=>whnf);repeat((first|apply TT mix|apply MM 54 rfl|apply GG rfl|apply sE rfl|apply dG (by kernel_rfl)|(refine mregQ_of ⟨rfl, rfl, rfl, fun _ => rfl, rfl⟩ ?_)|fail);(conv=>whnf)))
      refine bnd h9 (fun y11 hy11 h9 => ?_)
      refine Or.inl ⟨_, c_variants_fault _ _ _ hy11, rfl, ?_⟩
      have e := Option.some.inj h9; subst e
      have e := done_out hs9; subst e
      have e := Option.some.inj hc38; subst e
      ((conv=>whnf);repeat((first|apply TT mix|apply MM 54 rfl|apply GG rfl|apply sE rfl|apply dG (by kernel_rfl)|(refine mregQ_of ⟨rfl, rfl, rfl, fun _ => rfl, rfl⟩ ?_)|fail);(conv=>whnf)))
      exact And.intro (AV.Le.refl _) rfl
     ·((conv=>whnf);repeat((first|apply TT mix|apply MM 54 rfl|apply GG rfl|apply sE rfl|apply dG (by kernel_rfl)|(refine mregQ_of ⟨rfl, rfl, rfl, fun _ => rfl, rfl⟩ ?_)|fail);(conv=>whnf)))
      refine bnd h9 (fun x15 hx15 h9 => ?_)
      refine gloop_iter (fun s13 : Int × (List Int) => mkF 80 [(1, (.mp 0 0 0)), (6, (.mapr b)), (7, (.int .i64 s7.1)), (48, (e_L_L_i32 p_f.f_Sets)), (49, (.int .i64 ((p_f.f_Sets.length : Nat) : Int))), (50, (.int .i64 s7.1)), (63, (e_L_i32 (p_f.f_Sets.getD (s7.1.toNat) []))), (64, (.int .i64 (((p_f.f_Sets.getD (s7.1.toNat) []).length : Nat) : Int))), (65, (.int .i64 s13.1))] [some ⟨2, 24, (.vals [(e_api_Family p_f)]), false, false⟩]) (fun s13 : Int × (List Int) => (s13.2.map (AV.int .i32))) hx15 (weak_gen [0] rfl rfl (sK rfl (rowLe_vals (valsLe.cons (cellsLe_refl rfl) valsLe.nil)) storeLe.nil) (sQ rfl rfl)) rfl ?_
      intro k15 s13 st15 Kn15 hn15 h15 hs15
      ((conv=>whnf);repeat((first|apply TT mix|apply MM 54 rfl|apply GG rfl|apply sE rfl|apply dG (by kernel_rfl)|(refine mregQ_of ⟨rfl, rfl, rfl, fun _ => rfl, rfl⟩ ?_)|fail);(conv=>whnf)))
      refine br_b rfl h15 (fun c41 h15 => ?_) (fun c41 h15 => ?_)
      ·((conv=>whnf);repeat((first|apply TT mix|apply MM 54 rfl|apply GG rfl|apply sE rfl|apply dG (by kernel_rfl)|(refine mregQ_of ⟨rfl, rfl, rfl, fun _ => rfl, rfl⟩ ?_)|fail);(conv=>whnf)))
       refine grd2 rfl rfl h15 (fun h15 => ?_)
       ((conv=>whnf);repeat((first|apply TT mix|apply MM 54 rfl|apply GG rfl|apply sE rfl|apply dG (by kernel_rfl)|(refine mregQ_of ⟨rfl, rfl, rfl, fun _ => rfl, rfl⟩ ?_)|fail);(conv=>whnf)))
       obtain ⟨p42, h15⟩ := grdO h15
       refine ⟨rfl, rfl, rfl, wfR _ p42, ?_⟩
       ((conv=>whnf);repeat((first|apply TT mix|apply MM 54 rfl|apply GG rfl|apply sE rfl|apply dG (by kernel_rfl)|(refine mregQ_of ⟨rfl, rfl, rfl, fun _ => rfl, rfl⟩ ?_)|fail);(conv=>whnf)))
       refine br_b rfl h15 (fun c43 h15 => ?_) (fun c43 h15 => ?_)
       ·((conv=>whnf);repeat((first|apply TT mix|apply MM 54 rfl|apply GG rfl|apply sE rfl|apply dG (by kernel_rfl)|(refine mregQ_of ⟨rfl, rfl, rfl, fun _ => rfl, rfl⟩ ?_)|fail);(conv=>whnf)))
        refine bnd h15 (fun y16 hy16 h15 => ?_)
        refine Or.inl ⟨_, c_variants_fault _ _ _ hy16, rfl, ?_⟩
        have e := Option.some.inj h15; subst e
        have e := done_out hs15; subst e
        have e := Option.some.inj h9; subst e
        have e := done_out hs9; subst e
        have e := Option.some.inj hc38; subst e
        ((conv=>whnf);repeat((first|apply TT mix|apply MM 54 rfl|apply GG rfl|apply sE rfl|apply dG (by kernel_rfl)|(refine mregQ_of ⟨rfl, rfl, rfl, fun _ => rfl, rfl⟩ ?_)|fail);(conv=>whnf)))
        exact And.intro (AV.Le.refl _) rfl
       ·((conv=>whnf);repeat((first|apply TT mix|apply MM 54 rfl|apply GG rfl|apply sE rfl|apply dG (by kernel_rfl)|(refine mregQ_of ⟨rfl, rfl, rfl, fun _ => rfl, rfl⟩ ?_)|fail);(conv=>whnf)))
        obtain ⟨p44, h15⟩ := grdO h15
        refine ⟨rfl, rfl, rfl, wfR _ p44.1, p44.2, ?_⟩
        have e := Option.some.inj h15; subst e
        ((conv=>whnf);repeat((first|apply TT mix|apply MM 54 rfl|apply GG rfl|apply sE rfl|apply dG (by kernel_rfl)|(refine mregQ_of ⟨rfl, rfl, rfl, fun _ => rfl, rfl⟩ ?_)|fail);(conv=>whnf)))
        exact hn15 _ ((IntKind.wrap .i64 (s13.1 + (1 : Int))), (s13.2 ++ [((p_f.f_Sets.getD (s7.1.toNat) []).getD (s13.1.toNat) 0)])) _ hs15 (weak_gen [0] rfl rfl (sK rfl (rowLe_vals (valsLe.cons (cellsLe_refl rfl) valsLe.nil)) storeLe.nil) (sQ rfl rfl)) (by first | rfl | simp)
      ·have e := Option.some.inj h15; subst e
       have e := done_out hs15; subst e
       have e := Option.some.inj h9; subst e
       ((conv=>whnf);repeat((first|apply TT mix|apply MM 54 rfl|apply GG rfl|apply sE rfl|apply dG (by kernel_rfl)|(refine mregQ_of ⟨rfl, rfl, rfl, fun _ => rfl, rfl⟩ ?_)|fail);(conv=>whnf)))
       exact hn9 _ ((IntKind.wrap .i64 (s7.1 + (1 : Int))), s13.2) _ hs9 (weak_gen [0] rfl rfl (sK rfl (rowLe_vals (valsLe.cons (cellsLe_refl rfl) valsLe.nil)) storeLe.nil) (sQ rfl rfl)) (by first | rfl | simp)
    ·have e := Option.some.inj h9; subst e
     have e := done_out hs9; subst e
     have e := Option.some.inj hc38; subst e
     ((conv=>whnf);repeat((first|apply TT mix|apply MM 54 rfl|apply GG rfl|apply sE rfl|apply dG (by kernel_rfl)|(refine mregQ_of ⟨rfl, rfl, rfl, fun _ => rfl, rfl⟩ ?_)|fail);(conv=>whnf)))
     exact And.intro (AV.Le.err_nil) rfl
theorem c_slices_Equal_rune_rune (p_s1 : (List Int)) (p_s2 : (List Int)) (r : Bool) (h : m_slices_Equal_rune_rune p_s1 p_s2 = some r) : Contract pl 34 [(e_L_i32 p_s1), (e_L_i32 p_s2)] [] (AV.bool r) [] := by
 refine contract_of (.t false .z (.t false .z (.t true .z .z))) Tryd.func34 rfl (by kernel_rfl) ?_
 ((conv=>whnf);repeat((first|apply TT mix|apply sE rfl|apply dG (by kernel_rfl)|fail);(conv=>whnf)))
 refine br_b rfl h (fun c10 h => ?_) (fun c10 h => ?_)
 ·have e := Option.some.inj h; subst e
  ((conv=>whnf);repeat((first|apply TT mix|apply sE rfl|apply dG (by kernel_rfl)|fail);(conv=>whnf)))
  exact And.intro (AV.Le.refl _) rfl
 ·((conv=>whnf);repeat((first|apply TT mix|apply sE rfl|apply dG (by kernel_rfl)|fail);(conv=>whnf)))
  refine bnd h (fun x11 h11 h => ?_)
  refine cut_at (fun s1 : Unit => mkF 26 [] []) (fun s1 : Unit => some true = some r) ?_ ?_
  ·intro Kn11 hn11
   ((conv=>whnf);repeat((first|apply TT mix|apply sE rfl|apply dG (by kernel_rfl)|fail);(conv=>whnf)))
   refine loop_iter (fun s4 : Int => mkF 26 [(0, (e_L_i32 p_s1)), (1, (e_L_i32 p_s2)), (12, (.int .i64 ((p_s1.length : Nat) : Int))), (13, (.int .i64 s4))] []) h11 (weak_gen [] rfl rfl storeLe.nil (sQ rfl rfl)) ?_
   intro k6 s4 st6 Kn6 hn6 h6_ hs6
   ((conv=>whnf);repeat((first|apply TT mix|apply sE rfl|apply dG (by kernel_rfl)|fail);(conv=>whnf)))
   refine br_b rfl h6_ (fun c12 h6_ => ?_) (fun c12 h6_ => ?_)
   ·((conv=>whnf);repeat((first|apply TT mix|apply sE rfl|apply dG (by kernel_rfl)|fail);(conv=>whnf)))
    refine grd2 rfl rfl h6_ (fun h6_ => ?_)
    ((conv=>whnf);repeat((first|apply TT mix|apply sE rfl|apply dG (by kernel_rfl)|fail);(conv=>whnf)))
    refine grd2 rfl rfl h6_ (fun h6_ => ?_)
    ((conv=>whnf);repeat((first|apply TT mix|apply sE rfl|apply dG (by kernel_rfl)|fail);(conv=>whnf)))
    refine br_b rfl h6_ (fun c13 h6_ => ?_) (fun c13 h6_ => ?_)
    ·have e := Option.some.inj h6_; subst e
     have e := done_out hs6; subst e
     have e := Option.some.inj h; subst e
     ((conv=>whnf);repeat((first|apply TT mix|apply sE rfl|apply dG (by kernel_rfl)|fail);(conv=>whnf)))
     exact And.intro (AV.Le.refl _) rfl
    ·have e := Option.some.inj h6_; subst e
     ((conv=>whnf);repeat((first|apply TT mix|apply sE rfl|apply dG (by kernel_rfl)|fail);(conv=>whnf)))
     exact hn6 _ (IntKind.wrap .i64 (s4 + (1 : Int))) hs6 (weak_gen [] rfl rfl storeLe.nil (sQ rfl rfl))
   ·have e := Option.some.inj h6_; subst e
    have e := done_out hs6; subst e
    ((conv=>whnf);repeat((first|apply TT mix|apply sE rfl|apply dG (by kernel_rfl)|fail);(conv=>whnf)))
    exact hn11 _ () h (weak_gen [] rfl rfl storeLe.nil slotsLe.nil)
  ·clear h h11
   intro s1 hc14
   have e := Option.some.inj hc14; subst e
   ((conv=>whnf);repeat((first|apply TT mix|apply sE rfl|apply dG (by kernel_rfl)|fail);(conv=>whnf)))
   exact And.intro (AV.Le.refl _) rfl
theorem c_variants_Same (p_f : T_api_Family) (p_a : (List Int)) (p_b : (List Int)) (r : Bool) (h : m_variants_Same p_f p_a p_b = some r) : Contract pl 14 [(e_api_Family p_f), (e_L_i32 p_a), (e_L_i32 p_b)] [] (AV.bool r) [] := by
 refine contract_of .z Tryd.func14 rfl (by kernel_rfl) ?_
 ((conv=>whnf);repeat((first|apply TT mix|apply sE rfl|apply dG (by kernel_rfl)|fail);(conv=>whnf)))
 refine bnd h (fun y1 hy1 h => ?_)
 refine Or.inl ⟨_, c_variants_Key _ _ _ hy1, rfl, ?_⟩
 ((conv=>whnf);repeat((first|apply TT mix|apply sE rfl|apply dG (by kernel_rfl)|fail);(conv=>whnf)))
 refine bnd h (fun y2 hy2 h => ?_)
 refine Or.inl ⟨_, c_variants_Key _ _ _ hy2, rfl, ?_⟩
 ((conv=>whnf);repeat((first|apply TT mix|apply sE rfl|apply dG (by kernel_rfl)|fail);(conv=>whnf)))
 refine bnd h (fun y3 hy3 h => ?_)
 refine Or.inl ⟨_, c_slices_Equal_rune_rune _ _ _ hy3, rfl, ?_⟩
 have e := Option.some.inj h; subst e
 ((conv=>whnf);repeat((first|apply TT mix|apply sE rfl|apply dG (by kernel_rfl)|fail);(conv=>whnf)))
 exact And.intro (AV.Le.refl _) rfl
theorem c_variants_Count (p_f : T_api_Family) (p_l : (List Int)) (r : Int) (h : m_variants_Count p_f p_l = some r) : Contract pl 15 [(e_api_Family p_f), (e_L_i32 p_l)] [] (AV.int .i64 r) [] := by
 refine contract_of (.t false .z (.t false .z (.t true .z .z))) Tryd.func15 rfl (by kernel_rfl) ?_
 ((conv=>whnf);repeat((first|apply TT mix|apply sE rfl|apply dG (by kernel_rfl)|fail);(conv=>whnf)))
 refine bnd h (fun x9 h9 h => ?_)
 refine cut_at (fun s1 : Int => mkF 24 [(5, (.int .i64 s1))] []) (fun s1 : Int => some s1 = some r) ?_ ?_
 ·intro Kn9 hn9
  ((conv=>whnf);repeat((first|apply TT mix|apply sE rfl|apply dG (by kernel_rfl)|fail);(conv=>whnf)))
  refine loop_iter (fun s4 : Int × Int => mkF 24 [(2, (.mp 0 0 0)), (5, (.int .i64 s4.1)), (8, (e_L_i32 p_l)), (9, (.int .i64 ((p_l.length : Nat) : Int))), (10, (.int .i64 s4.2))] [some ⟨2, 24, (.vals [(e_api_Family p_f)]), false, false⟩]) h9 (weak_gen [0] rfl rfl (sK rfl (rowLe_vals (valsLe.cons (cellsLe_refl rfl) valsLe.nil)) storeLe.nil) (sQ rfl rfl)) ?_
  intro k6 s4 st6 Kn6 hn6 h6_ hs6
  ((conv=>whnf);repeat((first|apply TT mix|apply sE rfl|apply dG (by kernel_rfl)|fail);(conv=>whnf)))
  refine br_b rfl h6_ (fun c10 h6_ => ?_) (fun c10 h6_ => ?_)
  ·((conv=>whnf);repeat((first|apply TT mix|apply sE rfl|apply dG (by kernel_rfl)|fail);(conv=>whnf)))
   refine grd2 rfl rfl h6_ (fun h6_ => ?_)
   ((conv=>whnf);repeat((first|apply TT mix|apply sE rfl|apply dG (by kernel_rfl)|fail);(conv=>whnf)))
   refine bnd h6_ (fun y7 hy7 h6_ => ?_)
   refine Or.inl ⟨_, c_variants_find _ _ _ hy7, rfl, ?_⟩
   have e := Option.some.inj h6_; subst e
   ((conv=>whnf);repeat((first|apply TT mix|apply sE rfl|apply dG (by kernel_rfl)|fail);(conv=>whnf)))
   exact hn6 _ ((min (IntKind.wrap .i64 (s4.1 * (max ((y7.length : Nat) : Int) (1 : Int)))) (1073741824 : Int)), (IntKind.wrap .i64 (s4.2 + (1 : Int)))) hs6 (weak_gen [0] rfl rfl (sK rfl (rowLe_vals (valsLe.cons (cellsLe_refl rfl) valsLe.nil)) storeLe.nil) (sQ rfl rfl))
  ·have e := Option.some.inj h6_; subst e
   have e := done_out hs6; subst e
   ((conv=>whnf);repeat((first|apply TT mix|apply sE rfl|apply dG (by kernel_rfl)|fail);(conv=>whnf)))
   exact hn9 _ s4.1 h (weak_gen [] rfl rfl storeLe.nil (slotsLe.cons (cR rfl rfl) slotsLe.nil))
 ·clear h h9
  intro s1 hc11
  have e := Option.some.inj hc11; subst e
  ((conv=>whnf);repeat((first|apply TT mix|apply sE rfl|apply dG (by kernel_rfl)|fail);(conv=>whnf)))
  exact And.intro (AV.Le.refl _) rfl
theorem c_eponymlaw19_VariantsAlike (p_f : T_api_Family) (p_l : (List Int)) (p_m : (List Int)) (r : Bool) (h : m_eponymlaw19_VariantsAlike p_f p_l p_m = some r) : Contract pl 3 [(e_api_Family p_f), (e_L_i32 p_l), (e_L_i32 p_m)] [] (AV.bool r) [] := by
 refine contract_of (.t false .z (.t false .z (.t false (.t true .z .z) (.t false .z (.t false .z (.t true (.t false .z (.t false (.t false (.t false .z (.t true (.t false (.t false (.t true .z .z) (.t true (.t false .z (.t false (.t false .z (.t true (.t false (.t false (.t false (.t true .z .z) .z) .z) .z) (.t true .z .z))) .z)) .z)) .z) .z)) .z) .z)) .z)))))) Tryd.func3 rfl (by kernel_rfl) ?_
 ((conv=>whnf);repeat((first|apply TT mix|apply sE rfl|apply dG (by kernel_rfl)|fail);(conv=>whnf)))
 refine bnd h (fun y1 hy1 h => ?_)
 refine Or.inl ⟨_, c_eponymlaw19_awake  _ hy1, rfl, ?_⟩
 ((conv=>whnf);repeat((first|apply TT mix|apply sE rfl|apply dG (by kernel_rfl)|fail);(conv=>whnf)))
 refine br_b rfl h (fun c44 h => ?_) (fun c44 h => ?_)
 ·have e := Option.some.inj h; subst e
  ((conv=>whnf);repeat((first|apply TT mix|apply sE rfl|apply dG (by kernel_rfl)|fail);(conv=>whnf)))
  exact And.intro (AV.Le.refl _) rfl
 ·((conv=>whnf);repeat((first|apply TT mix|apply sE rfl|apply dG (by kernel_rfl)|fail);(conv=>whnf)))
  refine bnd h (fun x45 h45 h => ?_)
  refine cut_at (fun s2 : Bool => mkF 143 [(1, (e_L_i32 p_l)), (2, (e_L_i32 p_m)), (3, (.mp 0 0 0)), (29, (.bool s2))] [some ⟨2, 24, (.vals [(e_api_Family p_f)]), false, false⟩]) (fun s2 : Bool => m_eponymlaw19_VariantsAlike_K3 p_f p_l p_m s2 = some r) ?_ ?_
  ·intro Kn45 hn45
   ((conv=>whnf);repeat((first|apply TT mix|apply sE rfl|apply dG (by kernel_rfl)|fail);(conv=>whnf)))
   refine bnd h45 (fun y42 hy42 h45 => ?_)
   refine Or.inl ⟨_, c_eponymlaw19_Great _ _ hy42, rfl, ?_⟩
   ((conv=>whnf);repeat((first|apply TT mix|apply sE rfl|apply dG (by kernel_rfl)|fail);(conv=>whnf)))
   refine br_b rfl h45 (fun c46 h45 => ?_) (fun c46 h45 => ?_)
   ·have e := Option.some.inj h45; subst e
    ((conv=>whnf);repeat((first|apply TT mix|apply sE rfl|apply dG (by kernel_rfl)|fail);(conv=>whnf)))
    exact hn45 _ true h (weak_gen [0] rfl rfl (sK rfl (rowLe_vals (valsLe.cons (cellsLe_refl rfl) valsLe.nil)) storeLe.nil) (sQ rfl rfl))
   ·((conv=>whnf);repeat((first|apply TT mix|apply sE rfl|apply dG (by kernel_rfl)|fail);(conv=>whnf)))
    refine br_b rfl h45 (fun c47 h45 => ?_) (fun c47 h45 => ?_)
    ·have e := Option.some.inj h45; subst e
     ((conv=>whnf);repeat((first|apply TT mix|apply sE rfl|apply dG (by kernel_rfl)|fail);(conv=>whnf)))
     exact hn45 _ true h (weak_gen [0] rfl rfl (sK rfl (rowLe_vals (valsLe.cons (cellsLe_refl rfl) valsLe.nil)) storeLe.nil) (sQ rfl rfl))
    ·((conv=>whnf);repeat((first|apply TT mix|apply sE rfl|apply dG (by kernel_rfl)|fail);(conv=>whnf)))
     refine br_b rfl h45 (fun c48 h45 => ?_) (fun c48 h45 => ?_)
     ·have e := Option.some.inj h45; subst e
      ((conv=>whnf);repeat((first|apply TT mix|apply sE rfl|apply dG (by kernel_rfl)|fail);(conv=>whnf)))
      exact hn45 _ true h (weak_gen [0] rfl rfl (sK rfl (rowLe_vals (valsLe.cons (cellsLe_refl rfl) valsLe.nil)) storeLe.nil) (sQ rfl rfl))
     ·((conv=>whnf);repeat((first|apply TT mix|apply sE rfl|apply dG (by kernel_rfl)|fail);(conv=>whnf)))
      refine bnd h45 (fun y43 hy43 h45 => ?_)
      refine Or.inl ⟨_, c_variants_Check _ _ hy43, rfl, ?_⟩
      have e := Option.some.inj h45; subst e
      ((conv=>whnf);repeat((first|apply TT mix|apply sE rfl|apply dG (by kernel_rfl)|fail);(conv=>whnf)))
      exact hn45 _ (!y43.isNil) h (weak_gen [0] rfl rfl (sK rfl (rowLe_vals (valsLe.cons (cellsLe_refl rfl) valsLe.nil)) storeLe.nil) (sQ rfl rfl))
  ·clear h h45
   intro s2 hc49
   ((conv=>whnf);repeat((first|apply TT mix|apply sE rfl|apply dG (by kernel_rfl)|fail);(conv=>whnf)))
   refine br_b rfl hc49 (fun c50 hc49 => ?_) (fun c50 hc49 => ?_)
   ·have e := Option.some.inj hc49; subst e
    ((conv=>whnf);repeat((first|apply TT mix|apply sE rfl|apply dG (by kernel_rfl)|fail);(conv=>whnf)))
    exact And.intro (AV.Le.refl _) rfl
   ·((conv=>whnf);repeat((first|apply TT mix|apply sE rfl|apply dG (by kernel_rfl)|fail);(conv=>whnf)))
    refine bnd hc49 (fun y4 hy4 hc49 => ?_)
    refine Or.inl ⟨_, c_variants_All _ _ _ _ hy4, rfl, ?_⟩
    ((conv=>whnf);repeat((first|apply TT mix|apply sE rfl|apply dG (by kernel_rfl)|fail);(conv=>whnf)))
    refine bnd hc49 (fun x51 h51 hc49 => ?_)
    refine cut_at (fun s5 : Bool => mkF 143 [(1, (e_L_i32 p_l)), (2, (e_L_i32 p_m)), (3, (.mp 0 0 0)), (8, (.bool s5))] [some ⟨2, 24, (.vals [(e_api_Family p_f)]), false, false⟩]) (fun s5 : Bool => m_eponymlaw19_VariantsAlike_K6 p_f p_l p_m s5 = some r) ?_ ?_
    ·intro Kn51 hn51
     ((conv=>whnf);repeat((first|apply TT mix|apply sE rfl|apply dG (by kernel_rfl)|fail);(conv=>whnf)))
     refine loop_iter (fun s11 : Bool × Int => mkF 143 [(1, (e_L_i32 p_l)), (2, (e_L_i32 p_m)), (3, (.mp 0 0 0)), (7, (e_L_L_i32 y4)), (8, (.bool s11.1)), (9, (.int .i64 s11.2))] [some ⟨2, 24, (.vals [(e_api_Family p_f)]), false, false⟩]) h51 (weak_gen [0] rfl rfl (sK rfl (rowLe_vals (valsLe.cons (cellsLe_refl rfl) valsLe.nil)) storeLe.nil) (sQ rfl rfl)) ?_
     intro k13 s11 st13 Kn13 hn13 h13_ hs13
     ((conv=>whnf);repeat((first|apply TT mix|apply sE rfl|apply dG (by kernel_rfl)|fail);(conv=>whnf)))
     refine br_b rfl h13_ (fun c52 h13_ => ?_) (fun c52 h13_ => ?_)
     ·((conv=>whnf);repeat((first|apply TT mix|apply sE rfl|apply dG (by kernel_rfl)|fail);(conv=>whnf)))
      refine bnd h13_ (fun x53 h53 h13_ => ?_)
      refine cut_at (fun s14 : Bool => mkF 143 [(1, (e_L_i32 p_l)), (2, (e_L_i32 p_m)), (3, (.mp 0 0 0)), (7, (e_L_L_i32 y4)), (8, (.bool s14)), (9, (.int .i64 s11.2))] [some ⟨2, 24, (.vals [(e_api_Family p_f)]), false, false⟩]) (fun s14 : Bool => some (.next (s14, (IntKind.wrap .i64 (s11.2 + (1 : Int))))) = some st13) ?_ ?_
      ·intro Kn53 hn53
       ((conv=>whnf);repeat((first|apply TT mix|apply sE rfl|apply dG (by kernel_rfl)|fail);(conv=>whnf)))
       refine bnd h53 (fun x54 h54 h53 => ?_)
       refine cut_at (fun s16 : Bool => mkF 143 [(1, (e_L_i32 p_l)), (2, (e_L_i32 p_m)), (3, (.mp 0 0 0)), (7, (e_L_L_i32 y4)), (8, (.bool s11.1)), (9, (.int .i64 s11.2)), (73, (.bool s16))] [some ⟨2, 24, (.vals [(e_api_Family p_f)]), false, false⟩]) (fun s16 : Bool => m_eponymlaw19_VariantsAlike_K17 p_l p_m y4 s11 s16 = some x53) ?_ ?_
       ·intro Kn54 hn54
        ((conv=>whnf);repeat((first|apply TT mix|apply sE rfl|apply dG (by kernel_rfl)|fail);(conv=>whnf)))
        refine grd2 rfl rfl h54 (fun h54 => ?_)
        ((conv=>whnf);repeat((first|apply TT mix|apply sE rfl|apply dG (by kernel_rfl)|fail);(conv=>whnf)))
        refine bnd h54 (fun y33 hy33 h54 => ?_)
        refine Or.inl ⟨_, c_variants_Same _ _ _ _ hy33, rfl, ?_⟩
        ((conv=>whnf);repeat((first|apply TT mix|apply sE rfl|apply dG (by kernel_rfl)|fail);(conv=>whnf)))
        refine br_b rfl h54 (fun c55 h54 => ?_) (fun c55 h54 => ?_)
        ·have e := Option.some.inj h54; subst e
         ((conv=>whnf);repeat((first|apply TT mix|apply sE rfl|apply dG (by kernel_rfl)|fail);(conv=>whnf)))
         exact hn54 _ true h53 (weak_gen [0] rfl rfl (sK rfl (rowLe_vals (valsLe.cons (cellsLe_refl rfl) valsLe.nil)) storeLe.nil) (sQ rfl rfl))
        ·((conv=>whnf);repeat((first|apply TT mix|apply sE rfl|apply dG (by kernel_rfl)|fail);(conv=>whnf)))
         refine grd2 rfl rfl h54 (fun h54 => ?_)
         ((conv=>whnf);repeat((first|apply TT mix|apply sE rfl|apply dG (by kernel_rfl)|fail);(conv=>whnf)))
         refine bnd h54 (fun y34 hy34 h54 => ?_)
         refine Or.inl ⟨_, c_variants_Count _ _ _ hy34, rfl, ?_⟩
         ((conv=>whnf);repeat((first|apply TT mix|apply sE rfl|apply dG (by kernel_rfl)|fail);(conv=>whnf)))
         refine bnd h54 (fun y35 hy35 h54 => ?_)
         refine Or.inl ⟨_, c_variants_Count _ _ _ hy35, rfl, ?_⟩
         ((conv=>whnf);repeat((first|apply TT mix|apply sE rfl|apply dG (by kernel_rfl)|fail);(conv=>whnf)))
         refine br_b rfl h54 (fun c56 h54 => ?_) (fun c56 h54 => ?_)
         ·have e := Option.some.inj h54; subst e
          ((conv=>whnf);repeat((first|apply TT mix|apply sE rfl|apply dG (by kernel_rfl)|fail);(conv=>whnf)))
          exact hn54 _ true h53 (weak_gen [0] rfl rfl (sK rfl (rowLe_vals (valsLe.cons (cellsLe_refl rfl) valsLe.nil)) storeLe.nil) (sQ rfl rfl))
         ·((conv=>whnf);repeat((first|apply TT mix|apply sE rfl|apply dG (by kernel_rfl)|fail);(conv=>whnf)))
          refine br_b rfl h54 (fun c57 h54 => ?_) (fun c57 h54 => ?_)
          ·((conv=>whnf);repeat((first|apply TT mix|apply sE rfl|apply dG (by kernel_rfl)|fail);(conv=>whnf)))
           refine grd2 rfl rfl h54 (fun h54 => ?_)
           ((conv=>whnf);repeat((first|apply TT mix|apply sE rfl|apply dG (by kernel_rfl)|fail);(conv=>whnf)))
           refine bnd h54 (fun y36 hy36 h54 => ?_)
           refine Or.inl ⟨_, c_variants_Key _ _ _ hy36, rfl, ?_⟩
           ((conv=>whnf);repeat((first|apply TT mix|apply sE rfl|apply dG (by kernel_rfl)|fail);(conv=>whnf)))
           refine bnd h54 (fun y37 hy37 h54 => ?_)
           refine Or.inl ⟨_, c_eponymlaw01_Same _ _ _ hy37, rfl, ?_⟩
           have e := Option.some.inj h54; subst e
           ((conv=>whnf);repeat((first|apply TT mix|apply sE rfl|apply dG (by kernel_rfl)|fail);(conv=>whnf)))
           exact hn54 _ (!y37) h53 (weak_gen [0] rfl rfl (sK rfl (rowLe_vals (valsLe.cons (cellsLe_refl rfl) valsLe.nil)) storeLe.nil) (sQ rfl rfl))
          ·have e := Option.some.inj h54; subst e
           ((conv=>whnf);repeat((first|apply TT mix|apply sE rfl|apply dG (by kernel_rfl)|fail);(conv=>whnf)))
           exact hn54 _ false h53 (weak_gen [0] rfl rfl (sK rfl (rowLe_vals (valsLe.cons (cellsLe_refl rfl) valsLe.nil)) storeLe.nil) (sQ rfl rfl))
       ·clear h53 h54
        intro s16 hc58
        ((conv=>whnf);repeat((first|apply TT mix|apply sE rfl|apply dG (by kernel_rfl)|fail);(conv=>whnf)))
        refine br_b rfl hc58 (fun c59 hc58 => ?_) (fun c59 hc58 => ?_)
        ·have e := Option.some.inj hc58; subst e
         have e := Option.some.inj h13_; subst e
         have e := done_out hs13; subst e
         have e := Option.some.inj hc49; subst e
         ((conv=>whnf);repeat((first|apply TT mix|apply sE rfl|apply dG (by kernel_rfl)|fail);(conv=>whnf)))
         exact And.intro (AV.Le.refl _) rfl
        ·((conv=>whnf);repeat((first|apply TT mix|apply sE rfl|apply dG (by kernel_rfl)|fail);(conv=>whnf)))
         refine bnd hc58 (fun x60 h60 hc58 => ?_)
         refine cut_at (fun s18 : Unit => mkF 143 [(1, (e_L_i32 p_l)), (2, (e_L_i32 p_m)), (3, (.mp 0 0 0)), (7, (e_L_L_i32 y4)), (8, (.bool s11.1)), (9, (.int .i64 s11.2))] [some ⟨2, 24, (.vals [(e_api_Family p_f)]), false, false⟩]) (fun s18 : Unit => m_eponymlaw19_VariantsAlike_K19 p_m y4 s11 s18 = some x53) ?_ ?_
         ·intro Kn60 hn60
          ((conv=>whnf);repeat((first|apply TT mix|apply sE rfl|apply dG (by kernel_rfl)|fail);(conv=>whnf)))
          refine br_b rfl h60 (fun c61 h60 => ?_) (fun c61 h60 => ?_)
          ·((conv=>whnf);repeat((first|apply TT mix|apply sE rfl|apply dG (by kernel_rfl)|fail);(conv=>whnf)))
           refine bnd h60 (fun x62 h62 h60 => ?_)
           refine cut_at (fun s21 : Int => mkF 143 [(1, (e_L_i32 p_l)), (2, (e_L_i32 p_m)), (3, (.mp 0 0 0)), (7, (e_L_L_i32 y4)), (8, (.bool s11.1)), (9, (.int .i64 s11.2)), (10, (.int .i64 s21))] [some ⟨2, 24, (.vals [(e_api_Family p_f)]), false, false⟩]) (fun s21 : Int => m_eponymlaw19_VariantsAlike_K22 p_l y4 s11 s21 = some x60) ?_ ?_
           ·intro Kn62 hn62
            ((conv=>whnf);repeat((first|apply TT mix|apply sE rfl|apply dG (by kernel_rfl)|fail);(conv=>whnf)))
            refine loop_iter (fun s26 : Int => mkF 143 [(1, (e_L_i32 p_l)), (2, (e_L_i32 p_m)), (3, (.mp 0 0 0)), (7, (e_L_L_i32 y4)), (8, (.bool s11.1)), (9, (.int .i64 s11.2)), (10, (.int .i64 s26))] [some ⟨2, 24, (.vals [(e_api_Family p_f)]), false, false⟩]) h62 (weak_gen [0] rfl rfl (sK rfl (rowLe_vals (valsLe.cons (cellsLe_refl rfl) valsLe.nil)) storeLe.nil) (sQ rfl rfl)) ?_
            intro k28 s26 st28 Kn28 hn28 h28_ hs28
            ((conv=>whnf);repeat((first|apply TT mix|apply sE rfl|apply dG (by kernel_rfl)|fail);(conv=>whnf)))
            refine bnd h28_ (fun x63 h63 h28_ => ?_)
            refine cut_at (fun s29 : Bool => mkF 143 [(1, (e_L_i32 p_l)), (2, (e_L_i32 p_m)), (3, (.mp 0 0 0)), (7, (e_L_L_i32 y4)), (8, (.bool s11.1)), (9, (.int .i64 s11.2)), (10, (.int .i64 s26)), (97, (.bool s29))] [some ⟨2, 24, (.vals [(e_api_Family p_f)]), false, false⟩]) (fun s29 : Bool => m_eponymlaw19_VariantsAlike_K30 s26 s29 = some st28) ?_ ?_
            ·intro Kn63 hn63
             ((conv=>whnf);repeat((first|apply TT mix|apply sE rfl|apply dG (by kernel_rfl)|fail);(conv=>whnf)))
             refine br_b rfl h63 (fun c64 h63 => ?_) (fun c64 h63 => ?_)
             ·((conv=>whnf);repeat((first|apply TT mix|apply sE rfl|apply dG (by kernel_rfl)|fail);(conv=>whnf)))
              refine grd2 rfl rfl h63 (fun h63 => ?_)
              ((conv=>whnf);repeat((first|apply TT mix|apply sE rfl|apply dG (by kernel_rfl)|fail);(conv=>whnf)))
              refine grd2 rfl rfl h63 (fun h63 => ?_)
              ((conv=>whnf);repeat((first|apply TT mix|apply sE rfl|apply dG (by kernel_rfl)|fail);(conv=>whnf)))
              refine grd2 rfl rfl h63 (fun h63 => ?_)
              ((conv=>whnf);repeat((first|apply TT mix|apply sE rfl|apply dG (by kernel_rfl)|fail);(conv=>whnf)))
              refine grd2 rfl rfl h63 (fun h63 => ?_)
              have e := Option.some.inj h63; subst e
              ((conv=>whnf);repeat((first|apply TT mix|apply sE rfl|apply dG (by kernel_rfl)|fail);(conv=>whnf)))
              exact hn63 _ (((y4.getD (s11.2.toNat) []).getD (s26.toNat) 0) == ((y4.getD ((IntKind.wrap .i64 (s11.2 - (1 : Int))).toNat) []).getD (s26.toNat) 0)) h28_ (weak_gen [0] rfl rfl (sK rfl (rowLe_vals (valsLe.cons (cellsLe_refl rfl) valsLe.nil)) storeLe.nil) (sQ rfl rfl))
             ·have e := Option.some.inj h63; subst e
              ((conv=>whnf);repeat((first|apply TT mix|apply sE rfl|apply dG (by kernel_rfl)|fail);(conv=>whnf)))
              exact hn63 _ false h28_ (weak_gen [0] rfl rfl (sK rfl (rowLe_vals (valsLe.cons (cellsLe_refl rfl) valsLe.nil)) storeLe.nil) (sQ rfl rfl))
            ·clear h28_ h63
             intro s29 hc65
             ((conv=>whnf);repeat((first|apply TT mix|apply sE rfl|apply dG (by kernel_rfl)|fail);(conv=>whnf)))
             refine br_b rfl hc65 (fun c66 hc65 => ?_) (fun c66 hc65 => ?_)
             ·have e := Option.some.inj hc65; subst e
              ((conv=>whnf);repeat((first|apply TT mix|apply sE rfl|apply dG (by kernel_rfl)|fail);(conv=>whnf)))
              exact hn28 _ (IntKind.wrap .i64 (s26 + (1 : Int))) hs28 (weak_gen [0] rfl rfl (sK rfl (rowLe_vals (valsLe.cons (cellsLe_refl rfl) valsLe.nil)) storeLe.nil) (sQ rfl rfl))
             ·have e := Option.some.inj hc65; subst e
              have e := done_out hs28; subst e
              ((conv=>whnf);repeat((first|apply TT mix|apply sE rfl|apply dG (by kernel_rfl)|fail);(conv=>whnf)))
              exact hn62 _ s26 h60 (weak_gen [0] rfl rfl (sK rfl (rowLe_vals (valsLe.cons (cellsLe_refl rfl) valsLe.nil)) storeLe.nil) (sQ rfl rfl))
           ·clear h60 h62
            intro s21 hc67
            ((conv=>whnf);repeat((first|apply TT mix|apply sE rfl|apply dG (by kernel_rfl)|fail);(conv=>whnf)))
            refine bnd hc67 (fun x68 h68 hc67 => ?_)
            refine cut_at (fun s23 : Bool => mkF 143 [(1, (e_L_i32 p_l)), (2, (e_L_i32 p_m)), (3, (.mp 0 0 0)), (7, (e_L_L_i32 y4)), (8, (.bool s11.1)), (9, (.int .i64 s11.2)), (121, (.bool s23))] [some ⟨2, 24, (.vals [(e_api_Family p_f)]), false, false⟩]) (fun s23 : Bool => m_eponymlaw19_VariantsAlike_K24 s23 = some x60) ?_ ?_
            ·intro Kn68 hn68
             ((conv=>whnf);repeat((first|apply TT mix|apply sE rfl|apply dG (by kernel_rfl)|fail);(conv=>whnf)))
             refine br_b rfl h68 (fun c69 h68 => ?_) (fun c69 h68 => ?_)
             ·have e := Option.some.inj h68; subst e
              ((conv=>whnf);repeat((first|apply TT mix|apply sE rfl|apply dG (by kernel_rfl)|fail);(conv=>whnf)))
              exact hn68 _ true hc67 (weak_gen [0] rfl rfl (sK rfl (rowLe_vals (valsLe.cons (cellsLe_refl rfl) valsLe.nil)) storeLe.nil) (sQ rfl rfl))
             ·((conv=>whnf);repeat((first|apply TT mix|apply sE rfl|apply dG (by kernel_rfl)|fail);(conv=>whnf)))
              refine grd2 rfl rfl h68 (fun h68 => ?_)
              ((conv=>whnf);repeat((first|apply TT mix|apply sE rfl|apply dG (by kernel_rfl)|fail);(conv=>whnf)))
              refine grd2 rfl rfl h68 (fun h68 => ?_)
              ((conv=>whnf);repeat((first|apply TT mix|apply sE rfl|apply dG (by kernel_rfl)|fail);(conv=>whnf)))
              refine grd2 rfl rfl h68 (fun h68 => ?_)
              ((conv=>whnf);repeat((first|apply TT mix|apply sE rfl|apply dG (by kernel_rfl)|fail);(conv=>whnf)))
              refine grd2 rfl rfl h68 (fun h68 => ?_)
              have e := Option.some.inj h68; subst e
              ((conv=>whnf);repeat((first|apply TT mix|apply sE rfl|apply dG (by kernel_rfl)|fail);(conv=>whnf)))
              exact hn68 _ (decide (((y4.getD (s11.2.toNat) []).getD (s21.toNat) 0) < ((y4.getD ((IntKind.wrap .i64 (s11.2 - (1 : Int))).toNat) []).getD (s21.toNat) 0))) hc67 (weak_gen [0] rfl rfl (sK rfl (rowLe_vals (valsLe.cons (cellsLe_refl rfl) valsLe.nil)) storeLe.nil) (sQ rfl rfl))
            ·clear hc67 h68
             intro s23 hc70
             ((conv=>whnf);repeat((first|apply TT mix|apply sE rfl|apply dG (by kernel_rfl)|fail);(conv=>whnf)))
             refine br_b rfl hc70 (fun c71 hc70 => ?_) (fun c71 hc70 => ?_)
             ·have e := Option.some.inj hc70; subst e
              have e := Option.some.inj hc58; subst e
              have e := Option.some.inj h13_; subst e
              have e := done_out hs13; subst e
              have e := Option.some.inj hc49; subst e
              ((conv=>whnf);repeat((first|apply TT mix|apply sE rfl|apply dG (by kernel_rfl)|fail);(conv=>whnf)))
              exact And.intro (AV.Le.refl _) rfl
             ·have e := Option.some.inj hc70; subst e
              ((conv=>whnf);repeat((first|apply TT mix|apply sE rfl|apply dG (by kernel_rfl)|fail);(conv=>whnf)))
              exact hn60 _ () hc58 (weak_gen [0] rfl rfl (sK rfl (rowLe_vals (valsLe.cons (cellsLe_refl rfl) valsLe.nil)) storeLe.nil) (sQ rfl rfl))
          ·have e := Option.some.inj h60; subst e
           ((conv=>whnf);repeat((first|apply TT mix|apply sE rfl|apply dG (by kernel_rfl)|fail);(conv=>whnf)))
           exact hn60 _ () hc58 (weak_gen [0] rfl rfl (sK rfl (rowLe_vals (valsLe.cons (cellsLe_refl rfl) valsLe.nil)) storeLe.nil) (sQ rfl rfl))
         ·clear hc58 h60
          intro s18 hc72
          ((conv=>whnf);repeat((first|apply TT mix|apply sE rfl|apply dG (by kernel_rfl)|fail);(conv=>whnf)))
          refine br_b rfl hc72 (fun c73 hc72 => ?_) (fun c73 hc72 => ?_)
          ·have e := Option.some.inj hc72; subst e
           ((conv=>whnf);repeat((first|apply TT mix|apply sE rfl|apply dG (by kernel_rfl)|fail);(conv=>whnf)))
           exact hn53 _ true h13_ (weak_gen [0] rfl rfl (sK rfl (rowLe_vals (valsLe.cons (cellsLe_refl rfl) valsLe.nil)) storeLe.nil) (sQ rfl rfl))
          ·((conv=>whnf);repeat((first|apply TT mix|apply sE rfl|apply dG (by kernel_rfl)|fail);(conv=>whnf)))
           refine grd2 rfl rfl hc72 (fun hc72 => ?_)
           ((conv=>whnf);repeat((first|apply TT mix|apply sE rfl|apply dG (by kernel_rfl)|fail);(conv=>whnf)))
           refine bnd hc72 (fun y20 hy20 hc72 => ?_)
           refine Or.inl ⟨_, c_eponymlaw01_Same _ _ _ hy20, rfl, ?_⟩
           have e := Option.some.inj hc72; subst e
           ((conv=>whnf);repeat((first|apply TT mix|apply sE rfl|apply dG (by kernel_rfl)|fail);(conv=>whnf)))
           exact hn53 _ y20 h13_ (weak_gen [0] rfl rfl (sK rfl (rowLe_vals (valsLe.cons (cellsLe_refl rfl) valsLe.nil)) storeLe.nil) (sQ rfl rfl))
      ·clear h13_ h53
       intro s14 hc74
       have e := Option.some.inj hc74; subst e
       ((conv=>whnf);repeat((first|apply TT mix|apply sE rfl|apply dG (by kernel_rfl)|fail);(conv=>whnf)))
       exact hn13 _ (s14, (IntKind.wrap .i64 (s11.2 + (1 : Int)))) hs13 (weak_gen [0] rfl rfl (sK rfl (rowLe_vals (valsLe.cons (cellsLe_refl rfl) valsLe.nil)) storeLe.nil) (sQ rfl rfl))
     ·have e := Option.some.inj h13_; subst e
      have e := done_out hs13; subst e
      ((conv=>whnf);repeat((first|apply TT mix|apply sE rfl|apply dG (by kernel_rfl)|fail);(conv=>whnf)))
      exact hn51 _ s11.1 hc49 (weak_gen [0] rfl rfl (sK rfl (rowLe_vals (valsLe.cons (cellsLe_refl rfl) valsLe.nil)) storeLe.nil) (sQ rfl rfl))
    ·clear hc49 h51
     intro s5 hc75
     ((conv=>whnf);repeat((first|apply TT mix|apply sE rfl|apply dG (by kernel_rfl)|fail);(conv=>whnf)))
     refine bnd hc75 (fun y7 hy7 hc75 => ?_)
     refine Or.inl ⟨_, c_variants_Count _ _ _ hy7, rfl, ?_⟩
     ((conv=>whnf);repeat((first|apply TT mix|apply sE rfl|apply dG (by kernel_rfl)|fail);(conv=>whnf)))
     refine br_b rfl hc75 (fun c76 hc75 => ?_) (fun c76 hc75 => ?_)
     ·have e := Option.some.inj hc75; subst e
      ((conv=>whnf);repeat((first|apply TT mix|apply sE rfl|apply dG (by kernel_rfl)|fail);(conv=>whnf)))
      exact And.intro (AV.Le.refl _) rfl
     ·((conv=>whnf);repeat((first|apply TT mix|apply sE rfl|apply dG (by kernel_rfl)|fail);(conv=>whnf)))
      refine bnd hc75 (fun y8 hy8 hc75 => ?_)
      refine Or.inl ⟨_, c_variants_Same _ _ _ _ hy8, rfl, ?_⟩
      have e := Option.some.inj hc75; subst e
      ((conv=>whnf);repeat((first|apply TT mix|apply sE rfl|apply dG (by kernel_rfl)|fail);(conv=>whnf)))
      exact And.intro (AV.Le.refl _) rfl
end Go.Proofs.YtclhniadffljdaaDoor
