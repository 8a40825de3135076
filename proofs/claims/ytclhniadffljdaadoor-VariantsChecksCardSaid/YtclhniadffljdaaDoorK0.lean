/- Contracts of functions, walked by their models; printed by a program of ours. No condition. -/
import Derived.Test.YtclhniadffljdaaDoorE
import Derived.Test.YtclhniadffljdaaDoorProg
import Derived.KernelRfl
namespace Go.Proofs.YtclhniadffljdaaDoor
open Go Go.SE
set_option linter.unusedVariables false
set_option linter.unusedSimpArgs false
set_option maxRecDepth 10000
set_option maxHeartbeats 2000000
attribute [local irreducible] Contract iter
theorem mix : pl.follows .mixedOrders = true := by kernel_rfl
theorem gOf {α : Type} {c : Prop} [Decidable c] {X : Option α} {r : α} (h : (if c then X else none) = some r) : c := by
 by_cases hc : c
 ·exact hc
 ·rw [if_neg hc] at h; cases h
theorem lits_u8 : ∀ (l : List Int) (j : Nat), j < l.length → (l.map (AV.int .u8)).getD j .unk = .int .u8 (l.getD j 0) := fun l j hj => by simp [List.getD_eq_getElem?_getD, hj]
theorem c_cmp_isNaN_rune (p_x : Int) (r : Bool) (h : m_cmp_isNaN_rune p_x = some r) : Contract pl 106 [(AV.int .i32 p_x)] [] (AV.bool r) [] := by
 refine contract_of .z Tryd.func106 rfl (by kernel_rfl) ?_
 have e := Option.some.inj h; subst e
 ((conv=>whnf);repeat((first|apply TT mix|apply sE rfl|apply dG (by kernel_rfl)|fail);(conv=>whnf)))
 exact And.intro (AV.Le.refl _) rfl
theorem c_cmp_Less_rune (p_x : Int) (p_y : Int) (r : Bool) (h : m_cmp_Less_rune p_x p_y = some r) : Contract pl 82 [(AV.int .i32 p_x), (AV.int .i32 p_y)] [] (AV.bool r) [] := by
 refine contract_of .z Tryd.func82 rfl (by kernel_rfl) ?_
 ((conv=>whnf);repeat((first|apply TT mix|apply sE rfl|apply dG (by kernel_rfl)|fail);(conv=>whnf)))
 refine bnd h (fun y1 hy1 h => ?_)
 refine Or.inl ⟨_, c_cmp_isNaN_rune _ _ hy1, rfl, ?_⟩
 ((conv=>whnf);repeat((first|apply TT mix|apply sE rfl|apply dG (by kernel_rfl)|fail);(conv=>whnf)))
 refine br_b rfl h (fun c3 h => ?_) (fun c3 h => ?_)
 ·((conv=>whnf);repeat((first|apply TT mix|apply sE rfl|apply dG (by kernel_rfl)|fail);(conv=>whnf)))
  refine bnd h (fun y2 hy2 h => ?_)
  refine Or.inl ⟨_, c_cmp_isNaN_rune _ _ hy2, rfl, ?_⟩
  ((conv=>whnf);repeat((first|apply TT mix|apply sE rfl|apply dG (by kernel_rfl)|fail);(conv=>whnf)))
  refine br_b rfl h (fun c4 h => ?_) (fun c4 h => ?_)
  ·have e := Option.some.inj h; subst e
   ((conv=>whnf);repeat((first|apply TT mix|apply sE rfl|apply dG (by kernel_rfl)|fail);(conv=>whnf)))
   exact And.intro (AV.Le.refl _) rfl
  ·have e := Option.some.inj h; subst e
   ((conv=>whnf);repeat((first|apply TT mix|apply sE rfl|apply dG (by kernel_rfl)|fail);(conv=>whnf)))
   exact And.intro (AV.Le.refl _) rfl
 ·have e := Option.some.inj h; subst e
  ((conv=>whnf);repeat((first|apply TT mix|apply sE rfl|apply dG (by kernel_rfl)|fail);(conv=>whnf)))
  exact And.intro (AV.Le.refl _) rfl
theorem c_slices_isNaN_rune (p_x : Int) (r : Bool) (h : m_slices_isNaN_rune p_x = some r) : Contract pl 83 [(AV.int .i32 p_x)] [] (AV.bool r) [] := by
 refine contract_of .z Tryd.func83 rfl (by kernel_rfl) ?_
 have e := Option.some.inj h; subst e
 ((conv=>whnf);repeat((first|apply TT mix|apply sE rfl|apply dG (by kernel_rfl)|fail);(conv=>whnf)))
 exact And.intro (AV.Le.refl _) rfl
theorem c_slices_BinarySearch_rune_rune (p_x : (List Int)) (p_target : Int) (r : Int × Bool) (h : m_slices_BinarySearch_rune_rune p_x p_target = some r) : Contract pl 62 [(e_L_i32 p_x), (AV.int .i32 p_target)] [] (AV.tup [(AV.int .i64 r.1), (AV.bool r.2)]) [] := by
 refine contract_of (.t false .z (.t false .z (.t false .z (.t true .z .z)))) Tryd.func62 rfl (by kernel_rfl) ?_
 ((conv=>whnf);repeat((first|apply TT mix|apply sE rfl|apply dG (by kernel_rfl)|fail);(conv=>whnf)))
 refine bnd h (fun x11 h11 h => ?_)
 refine cut_at (fun s1 : Int => mkF 54 [(0, (e_L_i32 p_x)), (1, (.int .i32 p_target)), (6, (.int .i64 ((p_x.length : Nat) : Int))), (7, (.int .i64 s1))] []) (fun s1 : Int => m_slices_BinarySearch_rune_rune_K2 p_x p_target s1 = some r) ?_ ?_
 ·intro Kn11 hn11
  ((conv=>whnf);repeat((first|apply TT mix|apply sE rfl|apply dG (by kernel_rfl)|fail);(conv=>whnf)))
  refine loop_iter (fun s6 : Int × Int => mkF 54 [(0, (e_L_i32 p_x)), (1, (.int .i32 p_target)), (6, (.int .i64 ((p_x.length : Nat) : Int))), (7, (.int .i64 s6.1)), (8, (.int .i64 s6.2))] []) h11 (weak_gen [] rfl rfl storeLe.nil (sQ rfl rfl)) ?_
  intro k8 s6 st8 Kn8 hn8 h8_ hs8
  ((conv=>whnf);repeat((first|apply TT mix|apply sE rfl|apply dG (by kernel_rfl)|fail);(conv=>whnf)))
  refine br_b rfl h8_ (fun c12 h8_ => ?_) (fun c12 h8_ => ?_)
  ·((conv=>whnf);repeat((first|apply TT mix|apply sE rfl|apply dG (by kernel_rfl)|fail);(conv=>whnf)))
   refine And.intro (by decide) ?_
   ((conv=>whnf);repeat((first|apply TT mix|apply sE rfl|apply dG (by kernel_rfl)|fail);(conv=>whnf)))
   refine grd2 rfl rfl h8_ (fun h8_ => ?_)
   ((conv=>whnf);repeat((first|apply TT mix|apply sE rfl|apply dG (by kernel_rfl)|fail);(conv=>whnf)))
   refine bnd h8_ (fun y9 hy9 h8_ => ?_)
   refine Or.inl ⟨_, c_cmp_Less_rune _ _ _ hy9, rfl, ?_⟩
   ((conv=>whnf);repeat((first|apply TT mix|apply sE rfl|apply dG (by kernel_rfl)|fail);(conv=>whnf)))
   refine br_b rfl h8_ (fun c13 h8_ => ?_) (fun c13 h8_ => ?_)
   ·have e := Option.some.inj h8_; subst e
    ((conv=>whnf);repeat((first|apply TT mix|apply sE rfl|apply dG (by kernel_rfl)|fail);(conv=>whnf)))
    exact hn8 _ ((IntKind.wrap .i64 ((IntKind.wrap .i64 (Int.fdiv (IntKind.wrap .u64 (IntKind.wrap .i64 (s6.1 + s6.2))) 2)) + (1 : Int))), s6.2) hs8 (weak_gen [] rfl rfl storeLe.nil (sQ rfl rfl))
   ·have e := Option.some.inj h8_; subst e
    ((conv=>whnf);repeat((first|apply TT mix|apply sE rfl|apply dG (by kernel_rfl)|fail);(conv=>whnf)))
    exact hn8 _ (s6.1, (IntKind.wrap .i64 (Int.fdiv (IntKind.wrap .u64 (IntKind.wrap .i64 (s6.1 + s6.2))) 2))) hs8 (weak_gen [] rfl rfl storeLe.nil (sQ rfl rfl))
  ·have e := Option.some.inj h8_; subst e
   have e := done_out hs8; subst e
   ((conv=>whnf);repeat((first|apply TT mix|apply sE rfl|apply dG (by kernel_rfl)|fail);(conv=>whnf)))
   exact hn11 _ s6.1 h (weak_gen [] rfl rfl storeLe.nil (sQ rfl rfl))
 ·clear h h11
  intro s1 hc14
  ((conv=>whnf);repeat((first|apply TT mix|apply sE rfl|apply dG (by kernel_rfl)|fail);(conv=>whnf)))
  refine br_b rfl hc14 (fun c15 hc14 => ?_) (fun c15 hc14 => ?_)
  ·((conv=>whnf);repeat((first|apply TT mix|apply sE rfl|apply dG (by kernel_rfl)|fail);(conv=>whnf)))
   refine grd2 rfl rfl hc14 (fun hc14 => ?_)
   ((conv=>whnf);repeat((first|apply TT mix|apply sE rfl|apply dG (by kernel_rfl)|fail);(conv=>whnf)))
   refine br_b rfl hc14 (fun c16 hc14 => ?_) (fun c16 hc14 => ?_)
   ·have e := Option.some.inj hc14; subst e
    ((conv=>whnf);repeat((first|apply TT mix|apply sE rfl|apply dG (by kernel_rfl)|fail);(conv=>whnf)))
    exact And.intro (AV.Le.refl _) rfl
   ·((conv=>whnf);repeat((first|apply TT mix|apply sE rfl|apply dG (by kernel_rfl)|fail);(conv=>whnf)))
    refine grd2 rfl rfl hc14 (fun hc14 => ?_)
    ((conv=>whnf);repeat((first|apply TT mix|apply sE rfl|apply dG (by kernel_rfl)|fail);(conv=>whnf)))
    refine bnd hc14 (fun y3 hy3 hc14 => ?_)
    refine Or.inl ⟨_, c_slices_isNaN_rune _ _ hy3, rfl, ?_⟩
    ((conv=>whnf);repeat((first|apply TT mix|apply sE rfl|apply dG (by kernel_rfl)|fail);(conv=>whnf)))
    refine br_b rfl hc14 (fun c17 hc14 => ?_) (fun c17 hc14 => ?_)
    ·((conv=>whnf);repeat((first|apply TT mix|apply sE rfl|apply dG (by kernel_rfl)|fail);(conv=>whnf)))
     refine bnd hc14 (fun y4 hy4 hc14 => ?_)
     refine Or.inl ⟨_, c_slices_isNaN_rune _ _ hy4, rfl, ?_⟩
     have e := Option.some.inj hc14; subst e
     ((conv=>whnf);repeat((first|apply TT mix|apply sE rfl|apply dG (by kernel_rfl)|fail);(conv=>whnf)))
     exact And.intro (AV.Le.refl _) rfl
    ·have e := Option.some.inj hc14; subst e
     ((conv=>whnf);repeat((first|apply TT mix|apply sE rfl|apply dG (by kernel_rfl)|fail);(conv=>whnf)))
     exact And.intro (AV.Le.refl _) rfl
  ·have e := Option.some.inj hc14; subst e
   ((conv=>whnf);repeat((first|apply TT mix|apply sE rfl|apply dG (by kernel_rfl)|fail);(conv=>whnf)))
   exact And.intro (AV.Le.refl _) rfl
theorem c_variants_find (p_f : T_api_Family) (p_r : Int) (r : (List Int)) (h : m_variants_find p_f p_r = some r) : Contract pl 35 [(e_api_Family p_f), (AV.int .i32 p_r)] [] (e_L_i32 r) [] := by
 refine contract_of (.t false .z (.t true .z .z)) Tryd.func35 rfl (by kernel_rfl) ?_
 ((conv=>whnf);repeat((first|apply TT mix|apply sE rfl|apply dG (by kernel_rfl)|fail);(conv=>whnf)))
 refine bnd h (fun x11 h11 h => ?_)
 refine cut_at (fun s1 : Unit => mkF 25 [] []) (fun s1 : Unit => some [] = some r) ?_ ?_
 ·intro Kn11 hn11
  ((conv=>whnf);repeat((first|apply TT mix|apply sE rfl|apply dG (by kernel_rfl)|fail);(conv=>whnf)))
  refine loop_iter (fun s4 : Int => mkF 25 [(1, (.int .i32 p_r)), (10, (e_L_L_i32 p_f.f_Sets)), (11, (.int .i64 ((p_f.f_Sets.length : Nat) : Int))), (12, (.int .i64 s4))] []) h11 (weak_gen [] rfl rfl storeLe.nil (sQ rfl rfl)) ?_
  intro k6 s4 st6 Kn6 hn6 h6_ hs6
  ((conv=>whnf);repeat((first|apply TT mix|apply sE rfl|apply dG (by kernel_rfl)|fail);(conv=>whnf)))
  refine br_b rfl h6_ (fun c12 h6_ => ?_) (fun c12 h6_ => ?_)
  ·((conv=>whnf);repeat((first|apply TT mix|apply sE rfl|apply dG (by kernel_rfl)|fail);(conv=>whnf)))
   refine grd2 rfl rfl h6_ (fun h6_ => ?_)
   ((conv=>whnf);repeat((first|apply TT mix|apply sE rfl|apply dG (by kernel_rfl)|fail);(conv=>whnf)))
   refine bnd h6_ (fun y7 hy7 h6_ => ?_)
   refine Or.inl ⟨_, c_slices_BinarySearch_rune_rune _ _ _ hy7, rfl, ?_⟩
   ((conv=>whnf);repeat((first|apply TT mix|apply sE rfl|apply dG (by kernel_rfl)|fail);(conv=>whnf)))
   refine br_b rfl h6_ (fun c13 h6_ => ?_) (fun c13 h6_ => ?_)
   ·have e := Option.some.inj h6_; subst e
    have e := done_out hs6; subst e
    have e := Option.some.inj h; subst e
    ((conv=>whnf);repeat((first|apply TT mix|apply sE rfl|apply dG (by kernel_rfl)|fail);(conv=>whnf)))
    exact And.intro (AV.Le.refl _) rfl
   ·have e := Option.some.inj h6_; subst e
    ((conv=>whnf);repeat((first|apply TT mix|apply sE rfl|apply dG (by kernel_rfl)|fail);(conv=>whnf)))
    exact hn6 _ (IntKind.wrap .i64 (s4 + (1 : Int))) hs6 (weak_gen [] rfl rfl storeLe.nil (sQ rfl rfl))
  ·have e := Option.some.inj h6_; subst e
   have e := done_out hs6; subst e
   ((conv=>whnf);repeat((first|apply TT mix|apply sE rfl|apply dG (by kernel_rfl)|fail);(conv=>whnf)))
   exact hn11 _ () h (weak_gen [] rfl rfl storeLe.nil slotsLe.nil)
 ·clear h h11
  intro s1 hc14
  have e := Option.some.inj hc14; subst e
  ((conv=>whnf);repeat((first|apply TT mix|apply sE rfl|apply dG (by kernel_rfl)|fail);(conv=>whnf)))
  exact And.intro (AV.Le.list rfl (fun j hj => absurd hj (Nat.not_lt_zero _))) rfl
theorem c_slices_Clone_rune_rune_nil  (r : (List Int)) (h : m_slices_Clone_rune_rune_nil  = some r) : Contract pl 81 [(.sl (some true) 0 fun _ => .unk)] [] (e_L_i32 r) [] := by
 refine contract_of .z Tryd.func81 rfl (by kernel_rfl) ?_
 have e := Option.some.inj h; subst e
 ((conv=>whnf);repeat((first|apply TT mix|apply sE rfl|apply dG (by kernel_rfl)|fail);(conv=>whnf)))
 exact And.intro (AV.Le.list rfl (fun j hj => absurd hj (Nat.not_lt_zero _))) rfl
theorem c_slices_Clone_rune_rune_som (p_s : (List Int)) (r : (List Int)) (h : m_slices_Clone_rune_rune_som p_s = some r) : Contract pl 81 [(.sl (some false) p_s.length fun j => (AV.int .i32 (p_s.getD j 0)))] [] (e_L_i32 r) [] := by
 refine contract_of .z Tryd.func81 rfl (by kernel_rfl) ?_
 ((conv=>whnf);repeat((first|apply TT mix|apply sE rfl|apply dG (by kernel_rfl)|fail);(conv=>whnf)))
 obtain ⟨p1, h⟩ := grdO h
 refine ⟨[], p_s.length, (.ints .i32 p_s), ⟨rfl, rfl, fun j hj => rfl⟩, trivial, fun j hj => rfl, ?_⟩
 conv => whnf
 refine ⟨by simp [Row.len]; try omega, p1, by omega, ?_⟩
 have e := Option.some.inj h; subst e
 ((conv=>whnf);repeat((first|apply TT mix|apply sE rfl|apply dG (by kernel_rfl)|fail);(conv=>whnf)))
 exact And.intro (AV.Le.list (by simp; try omega) (fun j hj => by first | rfl | rw [getD_sub hj] | (rw [getD_take hj]; simp) | simp)) rfl
theorem c_slices_Clone_rune_rune (p_s : (List Int)) (r : (List Int)) (h : m_slices_Clone_rune_rune p_s = some r) : Contract pl 81 [(e_L_i32 p_s)] [] (e_L_i32 r) [] := by
 refine contract_nil (fun hn => ?_) (c_slices_Clone_rune_rune_som p_s r h)
 have hp : p_s = [] := List.eq_nil_of_length_eq_zero hn
 subst hp
 have e : r = [] := by simpa [m_slices_Clone_rune_rune, m_slices_Clone_rune_rune_som] using h.symm
 subst e
 exact c_slices_Clone_rune_rune_nil [] rfl
theorem c_variants_Set (p_f : T_api_Family) (p_r : Int) (r : (List Int)) (h : m_variants_Set p_f p_r = some r) : Contract pl 60 [(e_api_Family p_f), (AV.int .i32 p_r)] [] (e_L_i32 r) [] := by
 refine contract_of .z Tryd.func60 rfl (by kernel_rfl) ?_
 ((conv=>whnf);repeat((first|apply TT mix|apply sE rfl|apply dG (by kernel_rfl)|fail);(conv=>whnf)))
 refine bnd h (fun y1 hy1 h => ?_)
 refine Or.inl ⟨_, c_variants_find _ _ _ hy1, rfl, ?_⟩
 ((conv=>whnf);repeat((first|apply TT mix|apply sE rfl|apply dG (by kernel_rfl)|fail);(conv=>whnf)))
 refine bnd h (fun y2 hy2 h => ?_)
 refine Or.inl ⟨_, c_slices_Clone_rune_rune _ _ hy2, rfl, ?_⟩
 have e := Option.some.inj h; subst e
 ((conv=>whnf);repeat((first|apply TT mix|apply sE rfl|apply dG (by kernel_rfl)|fail);(conv=>whnf)))
 exact And.intro (AV.Le.refl _) rfl
theorem c_variants_Seq (p_f : T_api_Family) (p_l : (List Int)) (r : (List (List Int))) (h : m_variants_Seq p_f p_l = some r) : Contract pl 33 [(e_api_Family p_f), (e_L_i32 p_l)] [] (AV.fn (.func 61) [] [(AV.ip (e_L_L_i32 r) 0)]) [] := by
 refine contract_of (.t false .z (.t false .z (.t true (.t false .z (.t false (.t false (.t false .z (.t false .z (.t false (.t false (.t false .z (.t true .z .z)) .z) .z))) .z) .z)) .z))) Tryd.func33 rfl (by kernel_rfl) ?_
 ((conv=>whnf);repeat((first|apply TT mix|apply sE rfl|apply dG (by kernel_rfl)|fail);(conv=>whnf)))
 obtain ⟨p11, h⟩ := grdO h
 refine ⟨rfl, p11.1, p11.2.1, p11.2.2, ?_⟩
 ((conv=>whnf);repeat((first|apply TT mix|apply sE rfl|apply dG (by kernel_rfl)|fail);(conv=>whnf)))
 refine bnd h (fun x12 h12 h => ?_)
 refine cut_at (fun s1 : (List (List Int)) => mkF 37 [(5, (.mp 0 0 0))] [some ⟨1, 22, (.vals [(.ms 1 s1.length)]), false, false⟩, some ⟨1, 25, (.imf s1.length fun j => (e_L_i32 (s1.getD j []))), false, false⟩]) (fun s1 : (List (List Int)) => some s1 = some r) ?_ ?_
 ·intro Kn12 hn12
  ((conv=>whnf);repeat((first|apply TT mix|apply sE rfl|apply dG (by kernel_rfl)|fail);(conv=>whnf)))
  refine loop_iter (fun s4 : (List (List Int)) × Int => mkF 37 [(2, (.mp 0 0 0)), (5, (.mp 1 0 0)), (11, (e_L_i32 p_l)), (12, (.int .i64 ((p_l.length : Nat) : Int))), (13, (.int .i64 s4.2))] [some ⟨2, 24, (.vals [(e_api_Family p_f)]), false, false⟩, some ⟨1, 22, (.vals [(.ms 2 s4.1.length)]), false, false⟩, some ⟨1, 25, (.imf s4.1.length fun j => (e_L_i32 (s4.1.getD j []))), false, false⟩]) h12 (weak_gen [0, 2, 1] rfl rfl (sK rfl (rowLe_vals (valsLe.cons (cellsLe_refl rfl) valsLe.nil)) (sK rfl (rowLe_vals (valsLe.cons (cellsLe.cons (And.intro rfl (AV.Le.of_eq (congrArg (AV.ms _) (by first | rfl | omega | (simp; omega) | simp)))) cellsLe.nil) valsLe.nil)) (sK rfl (rowLe_imfLe (by first | rfl | simp) (fun i hi => by first | exact ⟨rfl, rfl, rfl, AV.Le.refl _⟩ | exact one_app (fun _ => ⟨rfl, rfl⟩) hi | exact one_set (fun _ => ⟨rfl, rfl⟩) rfl rfl (by first | exact AV.Le.refl _ | exact AV.Le.sl_any) hi | exact one_zero ⟨rfl, rfl, rfl, AV.Le.list rfl fun j hj => absurd hj (Nat.not_lt_zero _)⟩)) storeLe.nil))) (sQ rfl rfl)) ?_
  intro k6 s4 st6 Kn6 hn6 h6_ hs6
  ((conv=>whnf);repeat((first|apply TT mix|apply sE rfl|apply dG (by kernel_rfl)|fail);(conv=>whnf)))
  refine br_b rfl h6_ (fun c13 h6_ => ?_) (fun c13 h6_ => ?_)
  ·((conv=>whnf);repeat((first|apply TT mix|apply sE rfl|apply dG (by kernel_rfl)|fail);(conv=>whnf)))
   refine grd2 rfl rfl h6_ (fun h6_ => ?_)
   ((conv=>whnf);repeat((first|apply TT mix|apply sE rfl|apply dG (by kernel_rfl)|fail);(conv=>whnf)))
   refine bnd h6_ (fun x14 h14 h6_ => ?_)
   refine cut_at (fun s7 : (List (List Int)) => mkF 37 [(2, (.mp 0 0 0)), (5, (.mp 1 0 0)), (6, (.int .i64 s4.2)), (7, (.int .i32 (p_l.getD (s4.2.toNat) 0))), (11, (e_L_i32 p_l)), (12, (.int .i64 ((p_l.length : Nat) : Int))), (13, (.int .i64 s4.2))] [some ⟨2, 24, (.vals [(e_api_Family p_f)]), false, false⟩, some ⟨1, 22, (.vals [(.ms 2 s7.length)]), false, false⟩, some ⟨1, 25, (.imf s7.length fun j => (e_L_i32 (s7.getD j []))), false, false⟩]) (fun s7 : (List (List Int)) => m_variants_Seq_K8 p_l s4 s7 = some st6) ?_ ?_
   ·intro Kn14 hn14
    ((conv=>whnf);repeat((first|apply TT mix|apply sE rfl|apply dG (by kernel_rfl)|fail);(conv=>whnf)))
    refine bnd h14 (fun y9 hy9 h14 => ?_)
    refine Or.inl ⟨_, c_variants_Set _ _ _ hy9, rfl, ?_⟩
    ((conv=>whnf);repeat((first|apply TT mix|apply sE rfl|apply dG (by kernel_rfl)|fail);(conv=>whnf)))
    refine grd2 rfl rfl h14 (fun h14 => ?_)
    have e := Option.some.inj h14; subst e
    ((conv=>whnf);repeat((first|apply TT mix|apply sE rfl|apply dG (by kernel_rfl)|fail);(conv=>whnf)))
    exact hn14 _ (s4.1.set (s4.2.toNat) y9) h6_ (weak_gen [0, 1, 2] rfl rfl (sK rfl (rowLe_vals (valsLe.cons (cellsLe_refl rfl) valsLe.nil)) (sK rfl (rowLe_vals (valsLe.cons (cellsLe.cons (And.intro rfl (AV.Le.of_eq (congrArg (AV.ms _) (by first | rfl | omega | (simp; omega) | simp)))) cellsLe.nil) valsLe.nil)) (sK rfl (rowLe_imfLe (by first | rfl | simp) (fun i hi => by first | exact ⟨rfl, rfl, rfl, AV.Le.refl _⟩ | exact one_app (fun _ => ⟨rfl, rfl⟩) hi | exact one_set (fun _ => ⟨rfl, rfl⟩) rfl rfl (by first | exact AV.Le.refl _ | exact AV.Le.sl_any) hi | exact one_zero ⟨rfl, rfl, rfl, AV.Le.list rfl fun j hj => absurd hj (Nat.not_lt_zero _)⟩)) storeLe.nil))) (sQ rfl rfl))
   ·clear h6_ h14
    intro s7 hc15
    ((conv=>whnf);repeat((first|apply TT mix|apply sE rfl|apply dG (by kernel_rfl)|fail);(conv=>whnf)))
    refine grd2 rfl rfl hc15 (fun hc15 => ?_)
    ((conv=>whnf);repeat((first|apply TT mix|apply sE rfl|apply dG (by kernel_rfl)|fail);(conv=>whnf)))
    refine br_b rfl hc15 (fun c16 hc15 => ?_) (fun c16 hc15 => ?_)
    ·((conv=>whnf);repeat((first|apply TT mix|apply sE rfl|apply dG (by kernel_rfl)|fail);(conv=>whnf)))
     refine grd2 rfl rfl hc15 (fun hc15 => ?_)
     have e := Option.some.inj hc15; subst e
     ((conv=>whnf);repeat((first|apply TT mix|apply sE rfl|apply dG (by kernel_rfl)|fail);(conv=>whnf)))
     exact hn6 _ ((s7.set (s4.2.toNat) [(p_l.getD (s4.2.toNat) 0)]), (IntKind.wrap .i64 (s4.2 + (1 : Int)))) hs6 (weak_gen [0, 1, 2] rfl rfl (sK rfl (rowLe_vals (valsLe.cons (cellsLe_refl rfl) valsLe.nil)) (sK rfl (rowLe_vals (valsLe.cons (cellsLe.cons (And.intro rfl (AV.Le.of_eq (congrArg (AV.ms _) (by first | rfl | omega | (simp; omega) | simp)))) cellsLe.nil) valsLe.nil)) (sK rfl (rowLe_imfLe (by first | rfl | simp) (fun i hi => by first | exact ⟨rfl, rfl, rfl, AV.Le.refl _⟩ | exact one_app (fun _ => ⟨rfl, rfl⟩) hi | exact one_set (fun _ => ⟨rfl, rfl⟩) rfl rfl (by first | exact AV.Le.refl _ | exact AV.Le.sl_any) hi | exact one_zero ⟨rfl, rfl, rfl, AV.Le.list rfl fun j hj => absurd hj (Nat.not_lt_zero _)⟩)) storeLe.nil))) (sQ rfl rfl))
    ·have e := Option.some.inj hc15; subst e
     ((conv=>whnf);repeat((first|apply TT mix|apply sE rfl|apply dG (by kernel_rfl)|fail);(conv=>whnf)))
     exact hn6 _ (s7, (IntKind.wrap .i64 (s4.2 + (1 : Int)))) hs6 (weak_gen [0, 1, 2] rfl rfl (sK rfl (rowLe_vals (valsLe.cons (cellsLe_refl rfl) valsLe.nil)) (sK rfl (rowLe_vals (valsLe.cons (cellsLe.cons (And.intro rfl (AV.Le.of_eq (congrArg (AV.ms _) (by first | rfl | omega | (simp; omega) | simp)))) cellsLe.nil) valsLe.nil)) (sK rfl (rowLe_imfLe (by first | rfl | simp) (fun i hi => by first | exact ⟨rfl, rfl, rfl, AV.Le.refl _⟩ | exact one_app (fun _ => ⟨rfl, rfl⟩) hi | exact one_set (fun _ => ⟨rfl, rfl⟩) rfl rfl (by first | exact AV.Le.refl _ | exact AV.Le.sl_any) hi | exact one_zero ⟨rfl, rfl, rfl, AV.Le.list rfl fun j hj => absurd hj (Nat.not_lt_zero _)⟩)) storeLe.nil))) (sQ rfl rfl))
  ·have e := Option.some.inj h6_; subst e
   have e := done_out hs6; subst e
   ((conv=>whnf);repeat((first|apply TT mix|apply sE rfl|apply dG (by kernel_rfl)|fail);(conv=>whnf)))
   exact hn12 _ s4.1 h (weak_gen [1, 2] rfl rfl (sK rfl (rowLe_vals (valsLe.cons (cellsLe.cons (And.intro rfl (AV.Le.of_eq (congrArg (AV.ms _) (by first | rfl | omega | (simp; omega) | simp)))) cellsLe.nil) valsLe.nil)) (sK rfl (rowLe_imfLe (by first | rfl | simp) (fun i hi => by first | exact ⟨rfl, rfl, rfl, AV.Le.refl _⟩ | exact one_app (fun _ => ⟨rfl, rfl⟩) hi | exact one_set (fun _ => ⟨rfl, rfl⟩) rfl rfl (by first | exact AV.Le.refl _ | exact AV.Le.sl_any) hi | exact one_zero ⟨rfl, rfl, rfl, AV.Le.list rfl fun j hj => absurd hj (Nat.not_lt_zero _)⟩)) storeLe.nil)) (slotsLe.cons (cR rfl rfl) slotsLe.nil))
 ·clear h h12
  intro s1 hc17
  have e := Option.some.inj hc17; subst e
  ((conv=>whnf);repeat((first|apply TT mix|apply sE rfl|apply dG (by kernel_rfl)|fail);(conv=>whnf)))
  exact And.intro (AV.Le.fn argsLe.nil (argsLe.cons (AV.Le.ip (AV.Le.sl_any)) argsLe.nil)) rfl
theorem c_variants_Seq_1 (p_a0 : (List (List Int))) (r : (List Int)) (h : m_variants_Seq_1 p_a0 = some r) : YContract pl 61 [(AV.ip (e_L_L_i32 p_a0) 0)] (okY (m_variants_Seq_1_it p_a0) (fun x => (e_L_i32 x)) r) (finY (m_variants_Seq_1_it p_a0) r) (goodY (m_variants_Seq_1_it p_a0) r) := by
 refine ycontract_of (.t false .z (.t false (.t false (.t false (.t false .z (.t true .z (.t false (.t false (.t false .z .z) .z) (.w (.t false .z (.t true (.t false (.t false (.t false (.t true .z .z) .z) .z) .z) .z)))))) .z) .z) .z)) Tryd.func61 rfl rfl fun lp H hok hgd => ?_
 ((conv=>whnf);repeat((first|apply TT mix|apply YY|apply sE rfl|apply dG (by kernel_rfl)|fail);(conv=>whnf)))
 obtain ⟨p19, h⟩ := grdO h
 refine ⟨rfl, p19.1, p19.2.1, p19.2.2, ?_⟩
 have e := Option.some.inj h; subst e
 ((conv=>whnf);repeat((first|apply TT mix|apply YY|apply sE rfl|apply dG (by kernel_rfl)|fail);(conv=>whnf)))
 refine yloop_iter (fun s2 : (List Int) => mkF 67 [(0, (.fn (.yield lp) [] [])), (1, (.ip (e_L_L_i32 p_a0) 0)), (3, (.ms 0 s2.length))] [some ⟨1, 3, (.ints .i64 s2), false, false⟩]) (fun x => (e_L_i32 x)) hok hgd (weak_gen [0] rfl rfl (sK rfl (rowLe_ints (by first | rfl | simp)) storeLe.nil) (slotsLe.cons (cR rfl rfl) (slotsLe.cons (cR rfl rfl) (slotsLe.cons (And.intro rfl (AV.Le.of_eq (congrArg (AV.ms _) (by first | rfl | omega | (simp; omega) | simp)))) slotsLe.nil)))) ?_
 intro s2 tr y Kn hy hn
 ((conv=>whnf);repeat((first|apply TT mix|apply YY|apply sE rfl|apply dG (by kernel_rfl)|fail);(conv=>whnf)))
 obtain ⟨p20, hy⟩ := grdO hy
 refine ⟨rfl, p20.1, p20.2.1, p20.2.2, ?_⟩
 ((conv=>whnf);repeat((first|apply TT mix|apply YY|apply sE rfl|apply dG (by kernel_rfl)|fail);(conv=>whnf)))
 refine bnd hy (fun x21 h21 hy => ?_)
 refine cut_at (fun s3 : (List Int) => mkF 67 [(0, (.fn (.yield lp) [] [])), (1, (.ip (e_L_L_i32 p_a0) 0)), (3, (.ms 0 s2.length)), (4, (.ms 1 s3.length))] [some ⟨1, 3, (.ints .i64 s2), false, false⟩, some ⟨1, 21, (.ints .i32 s3), false, false⟩]) (fun s3 : (List Int) => m_variants_Seq_1_K4 p_a0 s2 s3 = some y) ?_ ?_
 ·intro Kn21 hn21
  ((conv=>whnf);repeat((first|apply TT mix|apply YY|apply sE rfl|apply dG (by kernel_rfl)|fail);(conv=>whnf)))
  refine loop_iter (fun s15 : (List Int) × Int => mkF 67 [(0, (.fn (.yield lp) [] [])), (1, (.ip (e_L_L_i32 p_a0) 0)), (3, (.ms 0 s2.length)), (4, (.ms 1 s15.1.length)), (14, (.int .i64 ((p_a0.length : Nat) : Int))), (15, (.int .i64 s15.2))] [some ⟨1, 3, (.ints .i64 s2), false, false⟩, some ⟨1, 21, (.ints .i32 s15.1), false, false⟩]) h21 (weak_gen [0, 1] rfl rfl (sK rfl (by first | exact rowLe_same fun _ _ _ => rfl | (simp; exact rowLe_same fun _ _ _ => rfl)) (sK rfl (rowLe_ints (by first | rfl | simp)) storeLe.nil)) (slotsLe.cons (cR rfl rfl) (slotsLe.cons (cR rfl rfl) (slotsLe.cons (And.intro rfl (AV.Le.of_eq (congrArg (AV.ms _) (by first | rfl | omega | (simp; omega) | simp)))) (slotsLe.cons (And.intro rfl (AV.Le.of_eq (congrArg (AV.ms _) (by first | rfl | omega | (simp; omega) | simp)))) (slotsLe.cons (cR rfl rfl) (slotsLe.cons (cR rfl rfl) slotsLe.nil))))))) ?_
  intro k17 s15 st17 Kn17 hn17 h17_ hs17
  ((conv=>whnf);repeat((first|apply TT mix|apply YY|apply sE rfl|apply dG (by kernel_rfl)|fail);(conv=>whnf)))
  refine br_b rfl h17_ (fun c22 h17_ => ?_) (fun c22 h17_ => ?_)
  ·((conv=>whnf);repeat((first|apply TT mix|apply YY|apply sE rfl|apply dG (by kernel_rfl)|fail);(conv=>whnf)))
   refine grd2 rfl rfl h17_ (fun h17_ => ?_)
   ((conv=>whnf);repeat((first|apply TT mix|apply YY|apply sE rfl|apply dG (by kernel_rfl)|fail);(conv=>whnf)))
   refine grd2 rfl rfl h17_ (fun h17_ => ?_)
   ((conv=>whnf);repeat((first|apply TT mix|apply YY|apply sE rfl|apply dG (by kernel_rfl)|fail);(conv=>whnf)))
   refine grd2 rfl rfl h17_ (fun h17_ => ?_)
   ((conv=>whnf);repeat((first|apply TT mix|apply YY|apply sE rfl|apply dG (by kernel_rfl)|fail);(conv=>whnf)))
   refine grd2 rfl rfl h17_ (fun h17_ => ?_)
   have e := Option.some.inj h17_; subst e
   ((conv=>whnf);repeat((first|apply TT mix|apply YY|apply sE rfl|apply dG (by kernel_rfl)|fail);(conv=>whnf)))
   exact hn17 _ ((s15.1.set (s15.2.toNat) ((p_a0.getD (s15.2.toNat) []).getD ((s2.getD (s15.2.toNat) 0).toNat) 0)), (IntKind.wrap .i64 (s15.2 + (1 : Int)))) hs17 (weak_gen [0, 1] rfl rfl (sK rfl (by first | exact rowLe_same fun _ _ _ => rfl | (simp; exact rowLe_same fun _ _ _ => rfl)) (sK rfl (rowLe_ints (by first | rfl | simp)) storeLe.nil)) (slotsLe.cons (cR rfl rfl) (slotsLe.cons (cR rfl rfl) (slotsLe.cons (And.intro rfl (AV.Le.of_eq (congrArg (AV.ms _) (by first | rfl | omega | (simp; omega) | simp)))) (slotsLe.cons (And.intro rfl (AV.Le.of_eq (congrArg (AV.ms _) (by first | rfl | omega | (simp; omega) | simp)))) (slotsLe.cons (cR rfl rfl) (slotsLe.cons (cR rfl rfl) slotsLe.nil)))))))
  ·have e := Option.some.inj h17_; subst e
   have e := done_out hs17; subst e
   ((conv=>whnf);repeat((first|apply TT mix|apply YY|apply sE rfl|apply dG (by kernel_rfl)|fail);(conv=>whnf)))
   exact hn21 _ s15.1 hy (weak_gen [0, 1] rfl rfl (sK rfl (by first | exact rowLe_same fun _ _ _ => rfl | (simp; exact rowLe_same fun _ _ _ => rfl)) (sK rfl (rowLe_ints (by first | rfl | simp)) storeLe.nil)) (slotsLe.cons (cR rfl rfl) (slotsLe.cons (cR rfl rfl) (slotsLe.cons (And.intro rfl (AV.Le.of_eq (congrArg (AV.ms _) (by first | rfl | omega | (simp; omega) | simp)))) (slotsLe.cons (And.intro rfl (AV.Le.of_eq (congrArg (AV.ms _) (by first | rfl | omega | (simp; omega) | simp)))) slotsLe.nil)))))
 ·clear hy h21
  intro s3 hc23
  have e := Option.some.inj hc23; subst e
  ((conv=>whnf);repeat((first|apply TT mix|apply YY|apply sE rfl|apply dG (by kernel_rfl)|fail);(conv=>whnf)))
  refine yield_iter hn rfl rfl rfl rfl (AV.Le.sl_any) ?_ ?_
  ·((conv=>whnf);repeat((first|apply TT mix|apply YY|apply sE rfl|apply dG (by kernel_rfl)|fail);(conv=>whnf)))
   exact fun h => Bool.noConfusion h
  ·intro p hp hn
   ((conv=>whnf);repeat((first|apply TT mix|apply YY|apply sE rfl|apply dG (by kernel_rfl)|fail);(conv=>whnf)))
   refine bnd hp (fun x24 h24 hp => ?_)
   refine cut_at (fun s5 : (List Int) × Int => mkF 67 [(0, (.fn (.yield lp) [] [])), (1, (.ip (e_L_L_i32 p_a0) 0)), (3, (.ms 0 s5.1.length)), (6, (.int .i64 s5.2))] [some ⟨1, 3, (.ints .i64 s5.1), false, false⟩]) (fun s5 : (List Int) × Int => m_variants_Seq_1_K6 s5 = some p) ?_ ?_
   ·intro Kn24 hn24
    ((conv=>whnf);repeat((first|apply TT mix|apply YY|apply sE rfl|apply dG (by kernel_rfl)|fail);(conv=>whnf)))
    refine loop_iter (fun s8 : (List Int) × Int => mkF 67 [(0, (.fn (.yield lp) [] [])), (1, (.ip (e_L_L_i32 p_a0) 0)), (3, (.ms 0 s8.1.length)), (6, (.int .i64 s8.2))] [some ⟨1, 3, (.ints .i64 s8.1), false, false⟩]) h24 (weak_gen [0] rfl rfl (sK rfl (rowLe_ints (by first | rfl | simp)) storeLe.nil) (slotsLe.cons (cR rfl rfl) (slotsLe.cons (cR rfl rfl) (slotsLe.cons (And.intro rfl (AV.Le.of_eq (congrArg (AV.ms _) (by first | rfl | omega | (simp; omega) | simp)))) (slotsLe.cons (cR rfl rfl) slotsLe.nil))))) ?_
    intro k10 s8 st10 Kn10 hn10 h10_ hs10
    ((conv=>whnf);repeat((first|apply TT mix|apply YY|apply sE rfl|apply dG (by kernel_rfl)|fail);(conv=>whnf)))
    refine bnd h10_ (fun x25 h25 h10_ => ?_)
    refine cut_at (fun s11 : Bool => mkF 67 [(0, (.fn (.yield lp) [] [])), (1, (.ip (e_L_L_i32 p_a0) 0)), (3, (.ms 0 s8.1.length)), (6, (.int .i64 s8.2)), (53, (.bool s11))] [some ⟨1, 3, (.ints .i64 s8.1), false, false⟩]) (fun s11 : Bool => m_variants_Seq_1_K12 s8 s11 = some st10) ?_ ?_
    ·intro Kn25 hn25
     ((conv=>whnf);repeat((first|apply TT mix|apply YY|apply sE rfl|apply dG (by kernel_rfl)|fail);(conv=>whnf)))
     refine br_b rfl h25 (fun c26 h25 => ?_) (fun c26 h25 => ?_)
     ·((conv=>whnf);repeat((first|apply TT mix|apply YY|apply sE rfl|apply dG (by kernel_rfl)|fail);(conv=>whnf)))
      refine grd2 rfl rfl h25 (fun h25 => ?_)
      ((conv=>whnf);repeat((first|apply TT mix|apply YY|apply sE rfl|apply dG (by kernel_rfl)|fail);(conv=>whnf)))
      refine grd2 rfl rfl h25 (fun h25 => ?_)
      have e := Option.some.inj h25; subst e
      ((conv=>whnf);repeat((first|apply TT mix|apply YY|apply sE rfl|apply dG (by kernel_rfl)|fail);(conv=>whnf)))
      exact hn25 _ ((s8.1.getD (s8.2.toNat) 0) == (IntKind.wrap .i64 ((((p_a0.getD (s8.2.toNat) []).length : Nat) : Int) - (1 : Int)))) h10_ (weak_gen [0] rfl rfl (sK rfl (by first | exact rowLe_same fun _ _ _ => rfl | (simp; exact rowLe_same fun _ _ _ => rfl)) storeLe.nil) (slotsLe.cons (cR rfl rfl) (slotsLe.cons (cR rfl rfl) (slotsLe.cons (And.intro rfl (AV.Le.of_eq (congrArg (AV.ms _) (by first | rfl | omega | (simp; omega) | simp)))) (slotsLe.cons (cR rfl rfl) (slotsLe.cons (cR rfl rfl) slotsLe.nil))))))
     ·have e := Option.some.inj h25; subst e
      ((conv=>whnf);repeat((first|apply TT mix|apply YY|apply sE rfl|apply dG (by kernel_rfl)|fail);(conv=>whnf)))
      exact hn25 _ false h10_ (weak_gen [0] rfl rfl (sK rfl (by first | exact rowLe_same fun _ _ _ => rfl | (simp; exact rowLe_same fun _ _ _ => rfl)) storeLe.nil) (slotsLe.cons (cR rfl rfl) (slotsLe.cons (cR rfl rfl) (slotsLe.cons (And.intro rfl (AV.Le.of_eq (congrArg (AV.ms _) (by first | rfl | omega | (simp; omega) | simp)))) (slotsLe.cons (cR rfl rfl) (slotsLe.cons (cR rfl rfl) slotsLe.nil))))))
    ·clear h10_ h25
     intro s11 hc27
     ((conv=>whnf);repeat((first|apply TT mix|apply YY|apply sE rfl|apply dG (by kernel_rfl)|fail);(conv=>whnf)))
     refine br_b rfl hc27 (fun c28 hc27 => ?_) (fun c28 hc27 => ?_)
     ·((conv=>whnf);repeat((first|apply TT mix|apply YY|apply sE rfl|apply dG (by kernel_rfl)|fail);(conv=>whnf)))
      refine grd2 rfl rfl hc27 (fun hc27 => ?_)
      have e := Option.some.inj hc27; subst e
      ((conv=>whnf);repeat((first|apply TT mix|apply YY|apply sE rfl|apply dG (by kernel_rfl)|fail);(conv=>whnf)))
      exact hn10 _ ((s8.1.set (s8.2.toNat) (0 : Int)), (IntKind.wrap .i64 (s8.2 - (1 : Int)))) hs10 (weak_gen [0] rfl rfl (sK rfl (rowLe_ints (by first | rfl | simp)) storeLe.nil) (slotsLe.cons (cR rfl rfl) (slotsLe.cons (cR rfl rfl) (slotsLe.cons (And.intro rfl (AV.Le.of_eq (congrArg (AV.ms _) (by first | rfl | omega | (simp; omega) | simp)))) (slotsLe.cons (cR rfl rfl) slotsLe.nil)))))
     ·have e := Option.some.inj hc27; subst e
      have e := done_out hs10; subst e
      ((conv=>whnf);repeat((first|apply TT mix|apply YY|apply sE rfl|apply dG (by kernel_rfl)|fail);(conv=>whnf)))
      exact hn24 _ (s8.1, s8.2) hp (weak_gen [0] rfl rfl (sK rfl (rowLe_ints (by first | rfl | simp)) storeLe.nil) (slotsLe.cons (cR rfl rfl) (slotsLe.cons (cR rfl rfl) (slotsLe.cons (And.intro rfl (AV.Le.of_eq (congrArg (AV.ms _) (by first | rfl | omega | (simp; omega) | simp)))) (slotsLe.cons (cR rfl rfl) slotsLe.nil)))))
   ·clear hp h24
    intro s5 hc29
    ((conv=>whnf);repeat((first|apply TT mix|apply YY|apply sE rfl|apply dG (by kernel_rfl)|fail);(conv=>whnf)))
    refine br_b rfl hc29 (fun c30 hc29 => ?_) (fun c30 hc29 => ?_)
    ·have e := Option.some.inj hc29; subst e
     ((conv=>whnf);repeat((first|apply TT mix|apply YY|apply sE rfl|apply dG (by kernel_rfl)|fail);(conv=>whnf)))
     exact fun _ => hn
    ·((conv=>whnf);repeat((first|apply TT mix|apply YY|apply sE rfl|apply dG (by kernel_rfl)|fail);(conv=>whnf)))
     refine grd2 rfl rfl hc29 (fun hc29 => ?_)
     ((conv=>whnf);repeat((first|apply TT mix|apply YY|apply sE rfl|apply dG (by kernel_rfl)|fail);(conv=>whnf)))
     refine grd2 rfl rfl hc29 (fun hc29 => ?_)
     have e := Option.some.inj hc29; subst e
     ((conv=>whnf);repeat((first|apply TT mix|apply YY|apply sE rfl|apply dG (by kernel_rfl)|fail);(conv=>whnf)))
     exact hn _ (weak_gen [0] rfl rfl (sK rfl (rowLe_ints (by first | rfl | simp)) storeLe.nil) (slotsLe.cons (cR rfl rfl) (slotsLe.cons (cR rfl rfl) (slotsLe.cons (And.intro rfl (AV.Le.of_eq (congrArg (AV.ms _) (by first | rfl | omega | (simp; omega) | simp)))) slotsLe.nil))))
theorem c_variants_All (p_f : T_api_Family) (p_l : (List Int)) (p_most : Int) (r : (List (List Int))) (h : m_variants_All p_f p_l p_most = some r) : Contract pl 13 [(e_api_Family p_f), (e_L_i32 p_l), (AV.int .i64 p_most)] [] (e_L_L_i32 r) [] := by
 refine contract_of (.t false .z (.t false .z (.t false .z (.t true (.t false .z (.t false (.t false .z .z) .z)) .z)))) Tryd.func13 rfl (by kernel_rfl) ?_
 ((conv=>whnf);repeat((first|apply TT mix|apply sE rfl|apply dG (by kernel_rfl)|fail);(conv=>whnf)))
 refine br_b rfl h (fun c11 h => ?_) (fun c11 h => ?_)
 ·have e := Option.some.inj h; subst e
  ((conv=>whnf);repeat((first|apply TT mix|apply sE rfl|apply dG (by kernel_rfl)|fail);(conv=>whnf)))
  exact And.intro (AV.Le.list rfl (fun j hj => absurd hj (Nat.not_lt_zero _))) rfl
 ·((conv=>whnf);repeat((first|apply TT mix|apply sE rfl|apply dG (by kernel_rfl)|fail);(conv=>whnf)))
  refine bnd h (fun x12 h12 h => ?_)
  refine cut_at (fun s1 : (List (List Int)) => mkF 24 [(7, (.mp 0 0 0))] [some ⟨1, 22, (.vals [(.ms 1 s1.length)]), false, false⟩, some ⟨1, 25, (.imf s1.length fun j => (e_L_i32 (s1.getD j []))), false, true⟩]) (fun s1 : (List (List Int)) => some s1 = some r) ?_ ?_
  ·intro Kn12 hn12
   ((conv=>whnf);repeat((first|apply TT mix|apply sE rfl|apply dG (by kernel_rfl)|fail);(conv=>whnf)))
   refine bnd h12 (fun y3 hy3 h12 => ?_)
   refine Or.inl ⟨_, c_variants_Seq _ _ _ hy3, rfl, ?_⟩
   ((conv=>whnf);repeat((first|apply TT mix|apply sE rfl|apply dG (by kernel_rfl)|fail);(conv=>whnf)))
   refine bnd h12 (fun w7 hw7 h12 => ?_)
   refine bnd h12 (fun x8 hx8 h12 => ?_)
   refine range_iter 2 14 [(5, (.mp 0 0 0)), (7, (.mp 1 0 0)), (13, (.fn (.func 61) [] [(.ip (e_L_L_i32 y3) 0)]))] (fun s6 : (List (List Int)) => [some ⟨1, 3, (.vals [(.int .i64 p_most)]), false, false⟩, some ⟨1, 22, (.vals [(.ms 2 s6.length)]), false, false⟩, some ⟨1, 25, (.imf s6.length fun j => (e_L_i32 (s6.getD j []))), false, true⟩]) hx8 (c_variants_Seq_1 _ _ hw7) rfl rfl (fun _ => Nat.le_of_ble_eq_true rfl) rfl ⟨_, rfl, rfl, by kernel_rfl⟩ (weak_trans (weak_nilv 2 0 _ [(.sl (some true) 0 fun _ => .unk)] 1 25 (.imf [].length fun j => (e_L_i32 ([].getD j []))) _ rfl rfl rfl rfl (fun j hj => absurd hj (Nat.not_lt_zero _)) (by first | exact Nat.zero_le _ | simp)) (weak_gen [1, 2, 3] rfl rfl (sK rfl (rowLe_vals (valsLe.cons (cellsLe.cons (cR rfl rfl) cellsLe.nil) valsLe.nil)) (sK rfl (rowLe_vals (valsLe.cons (cellsLe.cons (cR rfl rfl) cellsLe.nil) valsLe.nil)) (sK rfl (rowLe_imfLe (by first | rfl | simp) (fun i hi => by first | exact ⟨rfl, rfl, rfl, AV.Le.refl _⟩ | exact one_app (fun _ => ⟨rfl, rfl⟩) hi | exact one_set (fun _ => ⟨rfl, rfl⟩) rfl rfl (by first | exact AV.Le.refl _ | exact AV.Le.sl_any) hi | exact one_zero ⟨rfl, rfl, rfl, AV.Le.list rfl fun j hj => absurd hj (Nat.not_lt_zero _)⟩)) storeLe.nil))) (sQ rfl rfl))) ?_ ?_
   ·intro v4 s6 st8 Kn8 h8 hn8
    ((conv=>whnf);repeat((first|apply TT mix|apply sE rfl|apply dG (by kernel_rfl)|fail);(conv=>whnf)))
    obtain ⟨p13, h8⟩ := grdO h8
    refine ⟨[], 1, (.imf [v4].length fun j => (e_L_i32 ([v4].getD j []))), ⟨rfl, rfl, _, rfl, Nat.le_refl _, fun j hj => .inl (by first | (rcases j with _ | _ | _ | _ | _ | j <;> first | rfl | (exfalso; simp at hj; done) | (exfalso; simp at hj; omega)))⟩, (fun j hj => rfl), fun j hj => rfl, ?_⟩
    conv => whnf
    refine ⟨by simp [Row.len]; try omega, p13, by omega, ?_⟩
    ((conv=>whnf);repeat((first|apply TT mix|apply sE rfl|apply dG (by kernel_rfl)|fail);(conv=>whnf)))
    refine br_b rfl h8 (fun c14 h8 => ?_) (fun c14 h8 => ?_)
    ·have e := Option.some.inj h8; subst e
     ((conv=>whnf);repeat((first|apply TT mix|apply sE rfl|apply dG (by kernel_rfl)|fail);(conv=>whnf)))
     obtain ⟨e, h15⟩ := hn8; subst e
     refine h15 _ _ _ rfl (weak_keep rfl trivial) ?_
     have e := Option.some.inj h12; subst e
     ((conv=>whnf);repeat((first|apply TT mix|apply sE rfl|apply dG (by kernel_rfl)|fail);(conv=>whnf)))
     exact hn12 _ (s6 ++ [v4]) h (weak_gen [1, 4] rfl rfl (sK rfl (rowLe_vals (valsLe.cons (cellsLe.cons (And.intro rfl (AV.Le.of_eq (congrArg (AV.ms _) (by first | rfl | omega | (simp; omega) | simp)))) cellsLe.nil) valsLe.nil)) (sK rfl (rowLe_imfLe (by first | rfl | simp) (fun i hi => by first | exact ⟨rfl, rfl, rfl, AV.Le.refl _⟩ | exact one_app (fun _ => ⟨rfl, rfl⟩) hi | exact one_set (fun _ => ⟨rfl, rfl⟩) rfl rfl (by first | exact AV.Le.refl _ | exact AV.Le.sl_any) hi | exact one_zero ⟨rfl, rfl, rfl, AV.Le.list rfl fun j hj => absurd hj (Nat.not_lt_zero _)⟩)) storeLe.nil)) (slotsLe.cons (cR rfl rfl) slotsLe.nil))
    ·have e := Option.some.inj h8; subst e
     ((conv=>whnf);repeat((first|apply TT mix|apply sE rfl|apply dG (by kernel_rfl)|fail);(conv=>whnf)))
     exact hn8 _ (weak_gen [0, 1, 4] rfl rfl (sK rfl (rowLe_vals (valsLe.cons (cellsLe.cons (cR rfl rfl) cellsLe.nil) valsLe.nil)) (sK rfl (rowLe_vals (valsLe.cons (cellsLe.cons (And.intro rfl (AV.Le.of_eq (congrArg (AV.ms _) (by first | rfl | omega | (simp; omega) | simp)))) cellsLe.nil) valsLe.nil)) (sK rfl (rowLe_imfLe (by first | rfl | simp) (fun i hi => by first | exact ⟨rfl, rfl, rfl, AV.Le.refl _⟩ | exact one_app (fun _ => ⟨rfl, rfl⟩) hi | exact one_set (fun _ => ⟨rfl, rfl⟩) rfl rfl (by first | exact AV.Le.refl _ | exact AV.Le.sl_any) hi | exact one_zero ⟨rfl, rfl, rfl, AV.Le.list rfl fun j hj => absurd hj (Nat.not_lt_zero _)⟩)) storeLe.nil))) slotsLe.nil)
   ·intro s6 e; subst e
    have e := Option.some.inj h12; subst e
    ((conv=>whnf);repeat((first|apply TT mix|apply sE rfl|apply dG (by kernel_rfl)|fail);(conv=>whnf)))
    exact hn12 _ s6 h (weak_gen [1, 2] rfl rfl (sK rfl (rowLe_vals (valsLe.cons (cellsLe.cons (And.intro rfl (AV.Le.of_eq (congrArg (AV.ms _) (by first | rfl | omega | (simp; omega) | simp)))) cellsLe.nil) valsLe.nil)) (sK rfl (rowLe_imfLe (by first | rfl | simp) (fun i hi => by first | exact ⟨rfl, rfl, rfl, AV.Le.refl _⟩ | exact one_app (fun _ => ⟨rfl, rfl⟩) hi | exact one_set (fun _ => ⟨rfl, rfl⟩) rfl rfl (by first | exact AV.Le.refl _ | exact AV.Le.sl_any) hi | exact one_zero ⟨rfl, rfl, rfl, AV.Le.list rfl fun j hj => absurd hj (Nat.not_lt_zero _)⟩)) storeLe.nil)) (slotsLe.cons (cR rfl rfl) slotsLe.nil))
  ·clear h h12
   intro s1 hc16
   have e := Option.some.inj hc16; subst e
   ((conv=>whnf);repeat((first|apply TT mix|apply sE rfl|apply dG (by kernel_rfl)|fail);(conv=>whnf)))
   exact And.intro (AV.Le.refl _) rfl
theorem c_eponymlaw01_Same (p_a : (List Int)) (p_b : (List Int)) (r : Bool) (h : m_eponymlaw01_Same p_a p_b = some r) : Contract pl 16 [(e_L_i32 p_a), (e_L_i32 p_b)] [] (AV.bool r) [] := by
 refine contract_of (.t false .z (.t false .z (.t true .z .z))) Tryd.func16 rfl (by kernel_rfl) ?_
 ((conv=>whnf);repeat((first|apply TT mix|apply sE rfl|apply dG (by kernel_rfl)|fail);(conv=>whnf)))
 refine br_b rfl h (fun c10 h => ?_) (fun c10 h => ?_)
 ·have e := Option.some.inj h; subst e
  ((conv=>whnf);repeat((first|apply TT mix|apply sE rfl|apply dG (by kernel_rfl)|fail);(conv=>whnf)))
  exact And.intro (AV.Le.refl _) rfl
 ·((conv=>whnf);repeat((first|apply TT mix|apply sE rfl|apply dG (by kernel_rfl)|fail);(conv=>whnf)))
  refine bnd h (fun x11 h11 h => ?_)
  refine cut_at (fun s1 : Unit => mkF 26 [] []) (fun s1 : Unit => some true = some r) ?_ ?_
  ·intro Kn11 hn11
   ((conv=>whnf);repeat((first|apply TT mix|apply sE rfl|apply dG (by kernel_rfl)|fail);(conv=>whnf)))
   refine loop_iter (fun s4 : Int => mkF 26 [(0, (e_L_i32 p_a)), (1, (e_L_i32 p_b)), (5, (.int .i64 s4))] []) h11 (weak_gen [] rfl rfl storeLe.nil (sQ rfl rfl)) ?_
   intro k6 s4 st6 Kn6 hn6 h6_ hs6
   ((conv=>whnf);repeat((first|apply TT mix|apply sE rfl|apply dG (by kernel_rfl)|fail);(conv=>whnf)))
   refine br_b rfl h6_ (fun c12 h6_ => ?_) (fun c12 h6_ => ?_)
   ·((conv=>whnf);repeat((first|apply TT mix|apply sE rfl|apply dG (by kernel_rfl)|fail);(conv=>whnf)))
    refine grd2 rfl rfl h6_ (fun h6_ => ?_)
    ((conv=>whnf);repeat((first|apply TT mix|apply sE rfl|apply dG (by kernel_rfl)|fail);(conv=>whnf)))
    refine grd2 rfl rfl h6_ (fun h6_ => ?_)
    ((conv=>whnf);repeat((first|apply TT mix|apply sE rfl|apply dG (by kernel_rfl)|fail);(conv=>whnf)))
    refine br_b rfl h6_ (fun c13 h6_ => ?_) (fun c13 h6_ => ?_)
    ·have e := Option.some.inj h6_; subst e
     have e := done_out hs6; subst e
     have e := Option.some.inj h; subst e
     ((conv=>whnf);repeat((first|apply TT mix|apply sE rfl|apply dG (by kernel_rfl)|fail);(conv=>whnf)))
     exact And.intro (AV.Le.refl _) rfl
    ·have e := Option.some.inj h6_; subst e
     ((conv=>whnf);repeat((first|apply TT mix|apply sE rfl|apply dG (by kernel_rfl)|fail);(conv=>whnf)))
     exact hn6 _ (IntKind.wrap .i64 (s4 + (1 : Int))) hs6 (weak_gen [] rfl rfl storeLe.nil (sQ rfl rfl))
   ·have e := Option.some.inj h6_; subst e
    have e := done_out hs6; subst e
    ((conv=>whnf);repeat((first|apply TT mix|apply sE rfl|apply dG (by kernel_rfl)|fail);(conv=>whnf)))
    exact hn11 _ () h (weak_gen [] rfl rfl storeLe.nil slotsLe.nil)
  ·clear h h11
   intro s1 hc14
   have e := Option.some.inj hc14; subst e
   ((conv=>whnf);repeat((first|apply TT mix|apply sE rfl|apply dG (by kernel_rfl)|fail);(conv=>whnf)))
   exact And.intro (AV.Le.refl _) rfl
theorem c_variants_Key (p_f : T_api_Family) (p_l : (List Int)) (r : (List Int)) (h : m_variants_Key p_f p_l = some r) : Contract pl 17 [(e_api_Family p_f), (e_L_i32 p_l)] [] (e_L_i32 r) [] := by
 refine contract_of (.t false .z (.t false .z (.t false .z (.t true .z .z)))) Tryd.func17 rfl (by kernel_rfl) ?_
 ((conv=>whnf);repeat((first|apply TT mix|apply sE rfl|apply dG (by kernel_rfl)|fail);(conv=>whnf)))
 obtain ⟨p9, h⟩ := grdO h
 refine ⟨rfl, p9.1, p9.2.1, p9.2.2, ?_⟩
 ((conv=>whnf);repeat((first|apply TT mix|apply sE rfl|apply dG (by kernel_rfl)|fail);(conv=>whnf)))
 refine ⟨by simp [Row.len]; try omega, p_l.length, (.ints .i32 p_l), ⟨rfl, rfl, fun j hj => rfl⟩, trivial, fun j hj => rfl, ?_⟩
 ((conv=>whnf);repeat((first|apply TT mix|apply sE rfl|apply dG (by kernel_rfl)|fail);(conv=>whnf)))
 refine bnd h (fun x10 h10 h => ?_)
 refine cut_at (fun s1 : (List Int) => mkF 36 [(5, (.ms 0 s1.length))] [some ⟨1, 21, (.ints .i32 s1), false, false⟩]) (fun s1 : (List Int) => some s1 = some r) ?_ ?_
 ·intro Kn10 hn10
  ((conv=>whnf);repeat((first|apply TT mix|apply sE rfl|apply dG (by kernel_rfl)|fail);(conv=>whnf)))
  refine loop_iter (fun s4 : (List Int) × Int => mkF 36 [(2, (.mp 0 0 0)), (5, (.ms 1 s4.1.length)), (15, (.ms 1 s4.1.length)), (16, (.int .i64 ((p_l.length : Nat) : Int))), (17, (.int .i64 s4.2))] [some ⟨2, 24, (.vals [(e_api_Family p_f)]), false, false⟩, some ⟨1, 21, (.ints .i32 s4.1), false, false⟩]) h10 (weak_gen [0, 1] rfl rfl (sK rfl (rowLe_vals (valsLe.cons (cellsLe_refl rfl) valsLe.nil)) (sK rfl (rowLe_ints (by first | rfl | simp)) storeLe.nil)) (slotsLe.cons (cR rfl rfl) (slotsLe.cons (And.intro rfl (AV.Le.of_eq (congrArg (AV.ms _) (by first | rfl | omega | (simp; omega) | simp)))) (slotsLe.cons (And.intro rfl (AV.Le.of_eq (congrArg (AV.ms _) (by first | rfl | omega | (simp; omega) | simp)))) (slotsLe.cons (cR rfl rfl) (slotsLe.cons (cR rfl rfl) slotsLe.nil)))))) ?_
  intro k6 s4 st6 Kn6 hn6 h6_ hs6
  ((conv=>whnf);repeat((first|apply TT mix|apply sE rfl|apply dG (by kernel_rfl)|fail);(conv=>whnf)))
  refine br_b rfl h6_ (fun c11 h6_ => ?_) (fun c11 h6_ => ?_)
  ·((conv=>whnf);repeat((first|apply TT mix|apply sE rfl|apply dG (by kernel_rfl)|fail);(conv=>whnf)))
   refine grd2 rfl rfl h6_ (fun h6_ => ?_)
   ((conv=>whnf);repeat((first|apply TT mix|apply sE rfl|apply dG (by kernel_rfl)|fail);(conv=>whnf)))
   refine bnd h6_ (fun y7 hy7 h6_ => ?_)
   refine Or.inl ⟨_, c_variants_find _ _ _ hy7, rfl, ?_⟩
   ((conv=>whnf);repeat((first|apply TT mix|apply sE rfl|apply dG (by kernel_rfl)|fail);(conv=>whnf)))
   refine br_b rfl h6_ (fun c12 h6_ => ?_) (fun c12 h6_ => ?_)
   ·((conv=>whnf);repeat((first|apply TT mix|apply sE rfl|apply dG (by kernel_rfl)|fail);(conv=>whnf)))
    refine grd2 rfl rfl h6_ (fun h6_ => ?_)
    ((conv=>whnf);repeat((first|apply TT mix|apply sE rfl|apply dG (by kernel_rfl)|fail);(conv=>whnf)))
    refine grd2 rfl rfl h6_ (fun h6_ => ?_)
    have e := Option.some.inj h6_; subst e
    ((conv=>whnf);repeat((first|apply TT mix|apply sE rfl|apply dG (by kernel_rfl)|fail);(conv=>whnf)))
    exact hn6 _ ((s4.1.set (s4.2.toNat) (y7.getD 0 0)), (IntKind.wrap .i64 (s4.2 + (1 : Int)))) hs6 (weak_gen [0, 1] rfl rfl (sK rfl (rowLe_vals (valsLe.cons (cellsLe_refl rfl) valsLe.nil)) (sK rfl (rowLe_ints (by first | rfl | simp)) storeLe.nil)) (slotsLe.cons (cR rfl rfl) (slotsLe.cons (And.intro rfl (AV.Le.of_eq (congrArg (AV.ms _) (by first | rfl | omega | (simp; omega) | simp)))) (slotsLe.cons (And.intro rfl (AV.Le.of_eq (congrArg (AV.ms _) (by first | rfl | omega | (simp; omega) | simp)))) (slotsLe.cons (cR rfl rfl) (slotsLe.cons (cR rfl rfl) slotsLe.nil))))))
   ·have e := Option.some.inj h6_; subst e
    ((conv=>whnf);repeat((first|apply TT mix|apply sE rfl|apply dG (by kernel_rfl)|fail);(conv=>whnf)))
    exact hn6 _ (s4.1, (IntKind.wrap .i64 (s4.2 + (1 : Int)))) hs6 (weak_gen [0, 1] rfl rfl (sK rfl (rowLe_vals (valsLe.cons (cellsLe_refl rfl) valsLe.nil)) (sK rfl (rowLe_ints (by first | rfl | simp)) storeLe.nil)) (slotsLe.cons (cR rfl rfl) (slotsLe.cons (And.intro rfl (AV.Le.of_eq (congrArg (AV.ms _) (by first | rfl | omega | (simp; omega) | simp)))) (slotsLe.cons (And.intro rfl (AV.Le.of_eq (congrArg (AV.ms _) (by first | rfl | omega | (simp; omega) | simp)))) (slotsLe.cons (cR rfl rfl) (slotsLe.cons (cR rfl rfl) slotsLe.nil))))))
  ·have e := Option.some.inj h6_; subst e
   have e := done_out hs6; subst e
   ((conv=>whnf);repeat((first|apply TT mix|apply sE rfl|apply dG (by kernel_rfl)|fail);(conv=>whnf)))
   exact hn10 _ s4.1 h (weak_gen [1] rfl rfl (sK rfl (rowLe_ints (by first | rfl | simp)) storeLe.nil) (slotsLe.cons (And.intro rfl (AV.Le.of_eq (congrArg (AV.ms _) (by first | rfl | omega | (simp; omega) | simp)))) slotsLe.nil))
 ·clear h h10
  intro s1 hc13
  have e := Option.some.inj hc13; subst e
  ((conv=>whnf);repeat((first|apply TT mix|apply sE rfl|apply dG (by kernel_rfl)|fail);(conv=>whnf)))
  exact And.intro (AV.Le.sl_any) rfl
theorem c_eponymlaw19_awake  (r : Bool) (h : m_eponymlaw19_awake  = some r) : Contract pl 10 [] [] (AV.bool r) [] := by
 refine contract_of .z Tryd.func10 rfl (by kernel_rfl) ?_
 ((conv=>whnf);repeat((first|apply TT mix|apply sE rfl|apply dG (by kernel_rfl)|fail);(conv=>whnf)))
 refine bnd h (fun y1 hy1 h => ?_)
 refine Or.inl ⟨_, contract_le (c_variants_All _ _ _ _ hy1) (argsLe.cons (AV.Le.agg (argsLe.cons (AV.Le.refl _) (argsLe.cons (AV.Le.lits (enc := fun x => (e_L_i32 x)) [] rfl (litsLe.cons (argsLe.cons (AV.Le.list (by simp; try omega) (fun j hj => by first | rfl | rw [getD_sub hj] | (rw [getD_take hj]; simp) | simp)) argsLe.nil) rfl litsLe.nil)) argsLe.nil))) (argsLe.cons (AV.Le.list (by simp; try omega) (fun j hj => by first | rfl | rw [getD_sub hj] | (rw [getD_take hj]; simp) | simp)) (argsLe.cons (AV.Le.refl _) argsLe.nil))), rfl, ?_⟩
 ((conv=>whnf);repeat((first|apply TT mix|apply sE rfl|apply dG (by kernel_rfl)|fail);(conv=>whnf)))
 refine br_b rfl h (fun c5 h => ?_) (fun c5 h => ?_)
 ·((conv=>whnf);repeat((first|apply TT mix|apply sE rfl|apply dG (by kernel_rfl)|fail);(conv=>whnf)))
  refine grd2 rfl rfl h (fun h => ?_)
  ((conv=>whnf);repeat((first|apply TT mix|apply sE rfl|apply dG (by kernel_rfl)|fail);(conv=>whnf)))
  refine bnd h (fun y2 hy2 h => ?_)
  refine Or.inl ⟨_, contract_le (c_eponymlaw01_Same _ _ _ hy2) (argsLe.cons (AV.Le.refl _) (argsLe.cons (AV.Le.list (by simp; try omega) (fun j hj => by first | rfl | rw [getD_sub hj] | (rw [getD_take hj]; simp) | simp)) argsLe.nil)), rfl, ?_⟩
  ((conv=>whnf);repeat((first|apply TT mix|apply sE rfl|apply dG (by kernel_rfl)|fail);(conv=>whnf)))
  refine br_b rfl h (fun c6 h => ?_) (fun c6 h => ?_)
  ·((conv=>whnf);repeat((first|apply TT mix|apply sE rfl|apply dG (by kernel_rfl)|fail);(conv=>whnf)))
   refine grd2 rfl rfl h (fun h => ?_)
   ((conv=>whnf);repeat((first|apply TT mix|apply sE rfl|apply dG (by kernel_rfl)|fail);(conv=>whnf)))
   refine bnd h (fun y3 hy3 h => ?_)
   refine Or.inl ⟨_, contract_le (c_variants_Key _ _ _ hy3) (argsLe.cons (AV.Le.agg (argsLe.cons (AV.Le.refl _) (argsLe.cons (AV.Le.lits (enc := fun x => (e_L_i32 x)) [] rfl (litsLe.cons (argsLe.cons (AV.Le.list (by simp; try omega) (fun j hj => by first | rfl | rw [getD_sub hj] | (rw [getD_take hj]; simp) | simp)) argsLe.nil) rfl litsLe.nil)) argsLe.nil))) (argsLe.cons (AV.Le.refl _) argsLe.nil)), rfl, ?_⟩
   ((conv=>whnf);repeat((first|apply TT mix|apply sE rfl|apply dG (by kernel_rfl)|fail);(conv=>whnf)))
   refine grd2 rfl rfl h (fun h => ?_)
   ((conv=>whnf);repeat((first|apply TT mix|apply sE rfl|apply dG (by kernel_rfl)|fail);(conv=>whnf)))
   refine bnd h (fun y4 hy4 h => ?_)
   refine Or.inl ⟨_, c_eponymlaw01_Same _ _ _ hy4, rfl, ?_⟩
   have e := Option.some.inj h; subst e
   ((conv=>whnf);repeat((first|apply TT mix|apply sE rfl|apply dG (by kernel_rfl)|fail);(conv=>whnf)))
   exact And.intro (AV.Le.refl _) rfl
  ·have e := Option.some.inj h; subst e
   ((conv=>whnf);repeat((first|apply TT mix|apply sE rfl|apply dG (by kernel_rfl)|fail);(conv=>whnf)))
   exact And.intro (AV.Le.refl _) rfl
 ·have e := Option.some.inj h; subst e
  ((conv=>whnf);repeat((first|apply TT mix|apply sE rfl|apply dG (by kernel_rfl)|fail);(conv=>whnf)))
  exact And.intro (AV.Le.refl _) rfl
theorem c_eponymlaw19_Great (p_f : T_api_Family) (r : Bool) (h : m_eponymlaw19_Great p_f = some r) : Contract pl 11 [(e_api_Family p_f)] [] (AV.bool r) [] := by
 refine contract_of (.t false .z (.t false (.t true .z .z) (.t true .z .z))) Tryd.func11 rfl (by kernel_rfl) ?_
 ((conv=>whnf);repeat((first|apply TT mix|apply sE rfl|apply dG (by kernel_rfl)|fail);(conv=>whnf)))
 refine bnd h (fun x12 h12 h => ?_)
 refine cut_at (fun s1 : Bool => mkF 28 [(1, (.mp 0 0 0)), (13, (.bool s1))] [some ⟨2, 24, (.vals [(e_api_Family p_f)]), false, false⟩]) (fun s1 : Bool => m_eponymlaw19_Great_K2 p_f s1 = some r) ?_ ?_
 ·intro Kn12 hn12
  ((conv=>whnf);repeat((first|apply TT mix|apply sE rfl|apply dG (by kernel_rfl)|fail);(conv=>whnf)))
  refine br_b rfl h12 (fun c13 h12 => ?_) (fun c13 h12 => ?_)
  ·have e := Option.some.inj h12; subst e
   ((conv=>whnf);repeat((first|apply TT mix|apply sE rfl|apply dG (by kernel_rfl)|fail);(conv=>whnf)))
   exact hn12 _ true h (weak_gen [0] rfl rfl (sK rfl (rowLe_vals (valsLe.cons (cellsLe_refl rfl) valsLe.nil)) storeLe.nil) (sQ rfl rfl))
  ·have e := Option.some.inj h12; subst e
   ((conv=>whnf);repeat((first|apply TT mix|apply sE rfl|apply dG (by kernel_rfl)|fail);(conv=>whnf)))
   exact hn12 _ (decide (((p_f.f_Name.size : Nat) : Int) > (100 : Int))) h (weak_gen [0] rfl rfl (sK rfl (rowLe_vals (valsLe.cons (cellsLe_refl rfl) valsLe.nil)) storeLe.nil) (sQ rfl rfl))
 ·clear h h12
  intro s1 hc14
  ((conv=>whnf);repeat((first|apply TT mix|apply sE rfl|apply dG (by kernel_rfl)|fail);(conv=>whnf)))
  refine br_b rfl hc14 (fun c15 hc14 => ?_) (fun c15 hc14 => ?_)
  ·have e := Option.some.inj hc14; subst e
   ((conv=>whnf);repeat((first|apply TT mix|apply sE rfl|apply dG (by kernel_rfl)|fail);(conv=>whnf)))
   exact And.intro (AV.Le.refl _) rfl
  ·((conv=>whnf);repeat((first|apply TT mix|apply sE rfl|apply dG (by kernel_rfl)|fail);(conv=>whnf)))
   refine bnd hc14 (fun x16 h16 hc14 => ?_)
   refine cut_at (fun s3 : Unit => mkF 28 [] []) (fun s3 : Unit => some false = some r) ?_ ?_
   ·intro Kn16 hn16
    ((conv=>whnf);repeat((first|apply TT mix|apply sE rfl|apply dG (by kernel_rfl)|fail);(conv=>whnf)))
    refine loop_iter (fun s6 : Int => mkF 28 [(1, (.mp 0 0 0)), (3, (.int .i64 s6))] [some ⟨2, 24, (.vals [(e_api_Family p_f)]), false, false⟩]) h16 (weak_gen [0] rfl rfl (sK rfl (rowLe_vals (valsLe.cons (cellsLe_refl rfl) valsLe.nil)) storeLe.nil) (sQ rfl rfl)) ?_
    intro k8 s6 st8 Kn8 hn8 h8_ hs8
    ((conv=>whnf);repeat((first|apply TT mix|apply sE rfl|apply dG (by kernel_rfl)|fail);(conv=>whnf)))
    refine br_b rfl h8_ (fun c17 h8_ => ?_) (fun c17 h8_ => ?_)
    ·((conv=>whnf);repeat((first|apply TT mix|apply sE rfl|apply dG (by kernel_rfl)|fail);(conv=>whnf)))
     refine grd2 rfl rfl h8_ (fun h8_ => ?_)
     ((conv=>whnf);repeat((first|apply TT mix|apply sE rfl|apply dG (by kernel_rfl)|fail);(conv=>whnf)))
     refine br_b rfl h8_ (fun c18 h8_ => ?_) (fun c18 h8_ => ?_)
     ·have e := Option.some.inj h8_; subst e
      have e := done_out hs8; subst e
      have e := Option.some.inj hc14; subst e
      ((conv=>whnf);repeat((first|apply TT mix|apply sE rfl|apply dG (by kernel_rfl)|fail);(conv=>whnf)))
      exact And.intro (AV.Le.refl _) rfl
     ·have e := Option.some.inj h8_; subst e
      ((conv=>whnf);repeat((first|apply TT mix|apply sE rfl|apply dG (by kernel_rfl)|fail);(conv=>whnf)))
      exact hn8 _ (IntKind.wrap .i64 (s6 + (1 : Int))) hs8 (weak_gen [0] rfl rfl (sK rfl (rowLe_vals (valsLe.cons (cellsLe_refl rfl) valsLe.nil)) storeLe.nil) (sQ rfl rfl))
    ·have e := Option.some.inj h8_; subst e
     have e := done_out hs8; subst e
     ((conv=>whnf);repeat((first|apply TT mix|apply sE rfl|apply dG (by kernel_rfl)|fail);(conv=>whnf)))
     exact hn16 _ () hc14 (weak_gen [] rfl rfl storeLe.nil slotsLe.nil)
   ·clear hc14 h16
    intro s3 hc19
    have e := Option.some.inj hc19; subst e
    ((conv=>whnf);repeat((first|apply TT mix|apply sE rfl|apply dG (by kernel_rfl)|fail);(conv=>whnf)))
    exact And.intro (AV.Le.refl _) rfl
theorem c_eponymref01_value (p_s : ByteArray) (r : Int) (h : m_eponymref01_value p_s = some r) : Contract pl 84 [(AV.str p_s)] [] (AV.int .i32 r) [] := by
 refine contract_of (.t false .z (.t false .z (.t false .z (.t false (.t true .z .z) (.t false .z (.t true (.t true .z .z) (.t true (.t true .z .z) (.t true (.t true .z .z) (.t false .z (.t true (.t false .z (.t false (.t false (.t false .z (.t false (.t false (.t false (.t true .z .z) .z) .z) .z)) .z) .z)) .z)))))))))) Tryd.func84 rfl (by kernel_rfl) ?_
 ((conv=>whnf);repeat((first|apply TT mix|apply sE rfl|apply dG (by kernel_rfl)|fail);(conv=>whnf)))
 refine grd2 rfl rfl h (fun h => ?_)
 ((conv=>whnf);repeat((first|apply TT mix|apply sE rfl|apply dG (by kernel_rfl)|fail);(conv=>whnf)))
 refine bnd h (fun x26 h26 h => ?_)
 refine cut_at (fun s1 : Bool => mkF 81 [(0, (.str p_s)), (3, (.int .i32 (IntKind.wrap .i32 (bt p_s (0 : Int))))), (4, (.int .i64 ((p_s.size : Nat) : Int))), (17, (.bool s1))] []) (fun s1 : Bool => m_eponymref01_value_K2 p_s s1 = some r) ?_ ?_
 ·intro Kn26 hn26
  ((conv=>whnf);repeat((first|apply TT mix|apply sE rfl|apply dG (by kernel_rfl)|fail);(conv=>whnf)))
  refine br_b rfl h26 (fun c27 h26 => ?_) (fun c27 h26 => ?_)
  ·have e := Option.some.inj h26; subst e
   ((conv=>whnf);repeat((first|apply TT mix|apply sE rfl|apply dG (by kernel_rfl)|fail);(conv=>whnf)))
   exact hn26 _ (decide ((IntKind.wrap .i32 (bt p_s (0 : Int))) < (128 : Int))) h (weak_gen [] rfl rfl storeLe.nil (sQ rfl rfl))
  ·have e := Option.some.inj h26; subst e
   ((conv=>whnf);repeat((first|apply TT mix|apply sE rfl|apply dG (by kernel_rfl)|fail);(conv=>whnf)))
   exact hn26 _ false h (weak_gen [] rfl rfl storeLe.nil (sQ rfl rfl))
 ·clear h h26
  intro s1 hc28
  ((conv=>whnf);repeat((first|apply TT mix|apply sE rfl|apply dG (by kernel_rfl)|fail);(conv=>whnf)))
  refine br_b rfl hc28 (fun c29 hc28 => ?_) (fun c29 hc28 => ?_)
  ·have e := Option.some.inj hc28; subst e
   ((conv=>whnf);repeat((first|apply TT mix|apply sE rfl|apply dG (by kernel_rfl)|fail);(conv=>whnf)))
   exact And.intro (AV.Le.refl _) rfl
  ·((conv=>whnf);repeat((first|apply TT mix|apply sE rfl|apply dG (by kernel_rfl)|fail);(conv=>whnf)))
   refine bnd hc28 (fun x30 h30 hc28 => ?_)
   refine cut_at (fun s3 : Int => mkF 81 [(0, (.str p_s)), (3, (.int .i32 (IntKind.wrap .i32 (bt p_s (0 : Int))))), (4, (.int .i64 ((p_s.size : Nat) : Int))), (5, (.int .i32 s3))] []) (fun s3 : Int => m_eponymref01_value_K4 p_s s3 = some r) ?_ ?_
   ·intro Kn30 hn30
    ((conv=>whnf);repeat((first|apply TT mix|apply sE rfl|apply dG (by kernel_rfl)|fail);(conv=>whnf)))
    refine bnd h30 (fun x31 h31 h30 => ?_)
    refine cut_at (fun s24 : Bool => mkF 81 [(0, (.str p_s)), (3, (.int .i32 (IntKind.wrap .i32 (bt p_s (0 : Int))))), (4, (.int .i64 ((p_s.size : Nat) : Int))), (5, (.int .i32 (-1 : Int))), (28, (.bool s24))] []) (fun s24 : Bool => m_eponymref01_value_K25 p_s s24 = some x30) ?_ ?_
    ·intro Kn31 hn31
     ((conv=>whnf);repeat((first|apply TT mix|apply sE rfl|apply dG (by kernel_rfl)|fail);(conv=>whnf)))
     refine br_b rfl h31 (fun c32 h31 => ?_) (fun c32 h31 => ?_)
     ·((conv=>whnf);repeat((first|apply TT mix|apply sE rfl|apply dG (by kernel_rfl)|fail);(conv=>whnf)))
      refine br_b rfl h31 (fun c33 h31 => ?_) (fun c33 h31 => ?_)
      ·have e := Option.some.inj h31; subst e
       ((conv=>whnf);repeat((first|apply TT mix|apply sE rfl|apply dG (by kernel_rfl)|fail);(conv=>whnf)))
       exact hn31 _ (decide ((IntKind.wrap .i32 (bt p_s (0 : Int))) < (224 : Int))) h30 (weak_gen [] rfl rfl storeLe.nil (sQ rfl rfl))
      ·have e := Option.some.inj h31; subst e
       ((conv=>whnf);repeat((first|apply TT mix|apply sE rfl|apply dG (by kernel_rfl)|fail);(conv=>whnf)))
       exact hn31 _ false h30 (weak_gen [] rfl rfl storeLe.nil (sQ rfl rfl))
     ·have e := Option.some.inj h31; subst e
      ((conv=>whnf);repeat((first|apply TT mix|apply sE rfl|apply dG (by kernel_rfl)|fail);(conv=>whnf)))
      exact hn31 _ false h30 (weak_gen [] rfl rfl storeLe.nil (sQ rfl rfl))
    ·clear h30 h31
     intro s24 hc34
     ((conv=>whnf);repeat((first|apply TT mix|apply sE rfl|apply dG (by kernel_rfl)|fail);(conv=>whnf)))
     refine br_b rfl hc34 (fun c35 hc34 => ?_) (fun c35 hc34 => ?_)
     ·have e := Option.some.inj hc34; subst e
      ((conv=>whnf);repeat((first|apply TT mix|apply sE rfl|apply dG (by kernel_rfl)|fail);(conv=>whnf)))
      exact hn30 _ (IntKind.wrap .i32 ((IntKind.wrap .i32 (bt p_s (0 : Int))) - (192 : Int))) hc28 (weak_gen [] rfl rfl storeLe.nil (sQ rfl rfl))
     ·have e := Option.some.inj hc34; subst e
      ((conv=>whnf);repeat((first|apply TT mix|apply sE rfl|apply dG (by kernel_rfl)|fail);(conv=>whnf)))
      exact hn30 _ (-1 : Int) hc28 (weak_gen [] rfl rfl storeLe.nil (sQ rfl rfl))
   ·clear hc28 h30
    intro s3 hc36
    ((conv=>whnf);repeat((first|apply TT mix|apply sE rfl|apply dG (by kernel_rfl)|fail);(conv=>whnf)))
    refine bnd hc36 (fun x37 h37 hc36 => ?_)
    refine cut_at (fun s5 : Int => mkF 81 [(0, (.str p_s)), (3, (.int .i32 (IntKind.wrap .i32 (bt p_s (0 : Int))))), (4, (.int .i64 ((p_s.size : Nat) : Int))), (5, (.int .i32 s5))] []) (fun s5 : Int => m_eponymref01_value_K6 p_s s5 = some r) ?_ ?_
    ·intro Kn37 hn37
     ((conv=>whnf);repeat((first|apply TT mix|apply sE rfl|apply dG (by kernel_rfl)|fail);(conv=>whnf)))
     refine bnd h37 (fun x38 h38 h37 => ?_)
     refine cut_at (fun s22 : Bool => mkF 81 [(0, (.str p_s)), (3, (.int .i32 (IntKind.wrap .i32 (bt p_s (0 : Int))))), (4, (.int .i64 ((p_s.size : Nat) : Int))), (5, (.int .i32 s3)), (40, (.bool s22))] []) (fun s22 : Bool => m_eponymref01_value_K23 p_s s3 s22 = some x37) ?_ ?_
     ·intro Kn38 hn38
      ((conv=>whnf);repeat((first|apply TT mix|apply sE rfl|apply dG (by kernel_rfl)|fail);(conv=>whnf)))
      refine br_b rfl h38 (fun c39 h38 => ?_) (fun c39 h38 => ?_)
      ·((conv=>whnf);repeat((first|apply TT mix|apply sE rfl|apply dG (by kernel_rfl)|fail);(conv=>whnf)))
       refine br_b rfl h38 (fun c40 h38 => ?_) (fun c40 h38 => ?_)
       ·have e := Option.some.inj h38; subst e
        ((conv=>whnf);repeat((first|apply TT mix|apply sE rfl|apply dG (by kernel_rfl)|fail);(conv=>whnf)))
        exact hn38 _ (decide ((IntKind.wrap .i32 (bt p_s (0 : Int))) < (240 : Int))) h37 (weak_gen [] rfl rfl storeLe.nil (sQ rfl rfl))
       ·have e := Option.some.inj h38; subst e
        ((conv=>whnf);repeat((first|apply TT mix|apply sE rfl|apply dG (by kernel_rfl)|fail);(conv=>whnf)))
        exact hn38 _ false h37 (weak_gen [] rfl rfl storeLe.nil (sQ rfl rfl))
      ·have e := Option.some.inj h38; subst e
       ((conv=>whnf);repeat((first|apply TT mix|apply sE rfl|apply dG (by kernel_rfl)|fail);(conv=>whnf)))
       exact hn38 _ false h37 (weak_gen [] rfl rfl storeLe.nil (sQ rfl rfl))
     ·clear h37 h38
      intro s22 hc41
      ((conv=>whnf);repeat((first|apply TT mix|apply sE rfl|apply dG (by kernel_rfl)|fail);(conv=>whnf)))
      refine br_b rfl hc41 (fun c42 hc41 => ?_) (fun c42 hc41 => ?_)
      ·have e := Option.some.inj hc41; subst e
       ((conv=>whnf);repeat((first|apply TT mix|apply sE rfl|apply dG (by kernel_rfl)|fail);(conv=>whnf)))
       exact hn37 _ (IntKind.wrap .i32 ((IntKind.wrap .i32 (bt p_s (0 : Int))) - (224 : Int))) hc36 (weak_gen [] rfl rfl storeLe.nil (sQ rfl rfl))
      ·have e := Option.some.inj hc41; subst e
       ((conv=>whnf);repeat((first|apply TT mix|apply sE rfl|apply dG (by kernel_rfl)|fail);(conv=>whnf)))
       exact hn37 _ s3 hc36 (weak_gen [] rfl rfl storeLe.nil (sQ rfl rfl))
    ·clear hc36 h37
     intro s5 hc43
     ((conv=>whnf);repeat((first|apply TT mix|apply sE rfl|apply dG (by kernel_rfl)|fail);(conv=>whnf)))
     refine bnd hc43 (fun x44 h44 hc43 => ?_)
     refine cut_at (fun s7 : Int => mkF 81 [(0, (.str p_s)), (4, (.int .i64 ((p_s.size : Nat) : Int))), (5, (.int .i32 s7))] []) (fun s7 : Int => m_eponymref01_value_K8 p_s s7 = some r) ?_ ?_
     ·intro Kn44 hn44
      ((conv=>whnf);repeat((first|apply TT mix|apply sE rfl|apply dG (by kernel_rfl)|fail);(conv=>whnf)))
      refine bnd h44 (fun x45 h45 h44 => ?_)
      refine cut_at (fun s20 : Bool => mkF 81 [(0, (.str p_s)), (3, (.int .i32 (IntKind.wrap .i32 (bt p_s (0 : Int))))), (4, (.int .i64 ((p_s.size : Nat) : Int))), (5, (.int .i32 s5)), (52, (.bool s20))] []) (fun s20 : Bool => m_eponymref01_value_K21 p_s s5 s20 = some x44) ?_ ?_
      ·intro Kn45 hn45
       ((conv=>whnf);repeat((first|apply TT mix|apply sE rfl|apply dG (by kernel_rfl)|fail);(conv=>whnf)))
       refine br_b rfl h45 (fun c46 h45 => ?_) (fun c46 h45 => ?_)
       ·((conv=>whnf);repeat((first|apply TT mix|apply sE rfl|apply dG (by kernel_rfl)|fail);(conv=>whnf)))
        refine br_b rfl h45 (fun c47 h45 => ?_) (fun c47 h45 => ?_)
        ·have e := Option.some.inj h45; subst e
         ((conv=>whnf);repeat((first|apply TT mix|apply sE rfl|apply dG (by kernel_rfl)|fail);(conv=>whnf)))
         exact hn45 _ (decide ((IntKind.wrap .i32 (bt p_s (0 : Int))) < (248 : Int))) h44 (weak_gen [] rfl rfl storeLe.nil (sQ rfl rfl))
        ·have e := Option.some.inj h45; subst e
         ((conv=>whnf);repeat((first|apply TT mix|apply sE rfl|apply dG (by kernel_rfl)|fail);(conv=>whnf)))
         exact hn45 _ false h44 (weak_gen [] rfl rfl storeLe.nil (sQ rfl rfl))
       ·have e := Option.some.inj h45; subst e
        ((conv=>whnf);repeat((first|apply TT mix|apply sE rfl|apply dG (by kernel_rfl)|fail);(conv=>whnf)))
        exact hn45 _ false h44 (weak_gen [] rfl rfl storeLe.nil (sQ rfl rfl))
      ·clear h44 h45
       intro s20 hc48
       ((conv=>whnf);repeat((first|apply TT mix|apply sE rfl|apply dG (by kernel_rfl)|fail);(conv=>whnf)))
       refine br_b rfl hc48 (fun c49 hc48 => ?_) (fun c49 hc48 => ?_)
       ·have e := Option.some.inj hc48; subst e
        ((conv=>whnf);repeat((first|apply TT mix|apply sE rfl|apply dG (by kernel_rfl)|fail);(conv=>whnf)))
        exact hn44 _ (IntKind.wrap .i32 ((IntKind.wrap .i32 (bt p_s (0 : Int))) - (240 : Int))) hc43 (weak_gen [] rfl rfl storeLe.nil (sQ rfl rfl))
       ·have e := Option.some.inj hc48; subst e
        ((conv=>whnf);repeat((first|apply TT mix|apply sE rfl|apply dG (by kernel_rfl)|fail);(conv=>whnf)))
        exact hn44 _ s5 hc43 (weak_gen [] rfl rfl storeLe.nil (sQ rfl rfl))
     ·clear hc43 h44
      intro s7 hc50
      ((conv=>whnf);repeat((first|apply TT mix|apply sE rfl|apply dG (by kernel_rfl)|fail);(conv=>whnf)))
      refine br_b rfl hc50 (fun c51 hc50 => ?_) (fun c51 hc50 => ?_)
      ·have e := Option.some.inj hc50; subst e
       ((conv=>whnf);repeat((first|apply TT mix|apply sE rfl|apply dG (by kernel_rfl)|fail);(conv=>whnf)))
       exact And.intro (AV.Le.refl _) rfl
      ·((conv=>whnf);repeat((first|apply TT mix|apply sE rfl|apply dG (by kernel_rfl)|fail);(conv=>whnf)))
       refine bnd hc50 (fun x52 h52 hc50 => ?_)
       refine cut_at (fun s9 : Int => mkF 81 [(5, (.int .i32 s9))] []) (fun s9 : Int => some s9 = some r) ?_ ?_
       ·intro Kn52 hn52
        ((conv=>whnf);repeat((first|apply TT mix|apply sE rfl|apply dG (by kernel_rfl)|fail);(conv=>whnf)))
        refine loop_iter (fun s12 : Int × Int => mkF 81 [(0, (.str p_s)), (4, (.int .i64 ((p_s.size : Nat) : Int))), (5, (.int .i32 s12.1)), (6, (.int .i64 s12.2))] []) h52 (weak_gen [] rfl rfl storeLe.nil (sQ rfl rfl)) ?_
        intro k14 s12 st14 Kn14 hn14 h14_ hs14
        ((conv=>whnf);repeat((first|apply TT mix|apply sE rfl|apply dG (by kernel_rfl)|fail);(conv=>whnf)))
        refine br_b rfl h14_ (fun c53 h14_ => ?_) (fun c53 h14_ => ?_)
        ·((conv=>whnf);repeat((first|apply TT mix|apply sE rfl|apply dG (by kernel_rfl)|fail);(conv=>whnf)))
         refine bnd h14_ (fun x54 h54 h14_ => ?_)
         refine cut_at (fun s15 : Bool => mkF 81 [(0, (.str p_s)), (4, (.int .i64 ((p_s.size : Nat) : Int))), (5, (.int .i32 s12.1)), (6, (.int .i64 s12.2)), (71, (.bool s15))] []) (fun s15 : Bool => m_eponymref01_value_K16 p_s s12 s15 = some st14) ?_ ?_
         ·intro Kn54 hn54
          ((conv=>whnf);repeat((first|apply TT mix|apply sE rfl|apply dG (by kernel_rfl)|fail);(conv=>whnf)))
          refine grd2 rfl rfl h54 (fun h54 => ?_)
          ((conv=>whnf);repeat((first|apply TT mix|apply sE rfl|apply dG (by kernel_rfl)|fail);(conv=>whnf)))
          refine br_b rfl h54 (fun c55 h54 => ?_) (fun c55 h54 => ?_)
          ·have e := Option.some.inj h54; subst e
           ((conv=>whnf);repeat((first|apply TT mix|apply sE rfl|apply dG (by kernel_rfl)|fail);(conv=>whnf)))
           exact hn54 _ true h14_ (weak_gen [] rfl rfl storeLe.nil (sQ rfl rfl))
          ·((conv=>whnf);repeat((first|apply TT mix|apply sE rfl|apply dG (by kernel_rfl)|fail);(conv=>whnf)))
           refine grd2 rfl rfl h54 (fun h54 => ?_)
           have e := Option.some.inj h54; subst e
           ((conv=>whnf);repeat((first|apply TT mix|apply sE rfl|apply dG (by kernel_rfl)|fail);(conv=>whnf)))
           exact hn54 _ (decide ((bt p_s s12.2) > (191 : Int))) h14_ (weak_gen [] rfl rfl storeLe.nil (sQ rfl rfl))
         ·clear h14_ h54
          intro s15 hc56
          ((conv=>whnf);repeat((first|apply TT mix|apply sE rfl|apply dG (by kernel_rfl)|fail);(conv=>whnf)))
          refine br_b rfl hc56 (fun c57 hc56 => ?_) (fun c57 hc56 => ?_)
          ·have e := Option.some.inj hc56; subst e
           have e := done_out hs14; subst e
           have e := Option.some.inj hc50; subst e
           ((conv=>whnf);repeat((first|apply TT mix|apply sE rfl|apply dG (by kernel_rfl)|fail);(conv=>whnf)))
           exact And.intro (AV.Le.refl _) rfl
          ·((conv=>whnf);repeat((first|apply TT mix|apply sE rfl|apply dG (by kernel_rfl)|fail);(conv=>whnf)))
           refine grd2 rfl rfl hc56 (fun hc56 => ?_)
           have e := Option.some.inj hc56; subst e
           ((conv=>whnf);repeat((first|apply TT mix|apply sE rfl|apply dG (by kernel_rfl)|fail);(conv=>whnf)))
           exact hn14 _ ((IntKind.wrap .i32 ((IntKind.wrap .i32 ((IntKind.wrap .i32 (s12.1 * (64 : Int))) + (IntKind.wrap .i32 (bt p_s s12.2)))) - (128 : Int))), (IntKind.wrap .i64 (s12.2 + (1 : Int)))) hs14 (weak_gen [] rfl rfl storeLe.nil (sQ rfl rfl))
        ·have e := Option.some.inj h14_; subst e
         have e := done_out hs14; subst e
         ((conv=>whnf);repeat((first|apply TT mix|apply sE rfl|apply dG (by kernel_rfl)|fail);(conv=>whnf)))
         exact hn52 _ s12.1 hc50 (weak_gen [] rfl rfl storeLe.nil (slotsLe.cons (cR rfl rfl) slotsLe.nil))
       ·clear hc50 h52
        intro s9 hc58
        have e := Option.some.inj hc58; subst e
        ((conv=>whnf);repeat((first|apply TT mix|apply sE rfl|apply dG (by kernel_rfl)|fail);(conv=>whnf)))
        exact And.intro (AV.Le.refl _) rfl
theorem c_eponymref01_Right (p_r : Int) (r : Bool) (h : m_eponymref01_Right p_r = some r) : Contract pl 37 [(AV.int .i32 p_r)] [] (AV.bool r) [] := by
 refine contract_of .z Tryd.func37 rfl (by kernel_rfl) ?_
 ((conv=>whnf);repeat((first|apply TT mix|apply sE rfl|apply dG (by kernel_rfl)|fail);(conv=>whnf)))
 refine br_b rfl h (fun c1 h => ?_) (fun c1 h => ?_)
 ·((conv=>whnf);repeat((first|apply TT mix|apply sE rfl|apply dG (by kernel_rfl)|fail);(conv=>whnf)))
  refine br_b rfl h (fun c2 h => ?_) (fun c2 h => ?_)
  ·((conv=>whnf);repeat((first|apply TT mix|apply sE rfl|apply dG (by kernel_rfl)|fail);(conv=>whnf)))
   refine br_b rfl h (fun c3 h => ?_) (fun c3 h => ?_)
   ·have e := Option.some.inj h; subst e
    ((conv=>whnf);repeat((first|apply TT mix|apply sE rfl|apply dG (by kernel_rfl)|fail);(conv=>whnf)))
    exact And.intro (AV.Le.refl _) rfl
   ·have e := Option.some.inj h; subst e
    ((conv=>whnf);repeat((first|apply TT mix|apply sE rfl|apply dG (by kernel_rfl)|fail);(conv=>whnf)))
    exact And.intro (AV.Le.refl _) rfl
  ·have e := Option.some.inj h; subst e
   ((conv=>whnf);repeat((first|apply TT mix|apply sE rfl|apply dG (by kernel_rfl)|fail);(conv=>whnf)))
   exact And.intro (AV.Le.refl _) rfl
 ·have e := Option.some.inj h; subst e
  ((conv=>whnf);repeat((first|apply TT mix|apply sE rfl|apply dG (by kernel_rfl)|fail);(conv=>whnf)))
  exact And.intro (AV.Le.refl _) rfl
theorem c_eponymref01_Form (p_r : Int) (r : ByteArray) (h : m_eponymref01_Form p_r = some r) : Contract pl 85 [(AV.int .i32 p_r)] [] (AV.str r) [] := by
 refine contract_of .z Tryd.func85 rfl (by kernel_rfl) ?_
 ((conv=>whnf);repeat((first|apply TT mix|apply sE rfl|apply dG (by kernel_rfl)|fail);(conv=>whnf)))
 refine br_b rfl h (fun c1 h => ?_) (fun c1 h => ?_)
 ·((conv=>whnf);repeat((first|apply TT mix|apply sE rfl|apply dG (by kernel_rfl)|fail);(conv=>whnf)))
  refine ⟨[(IntKind.wrap .u8 p_r)], by first | rfl | simp, fun j hj => by first | rfl | exact lits_u8 _ j hj, ?_⟩
  have e := Option.some.inj h; subst e
  ((conv=>whnf);repeat((first|apply TT mix|apply sE rfl|apply dG (by kernel_rfl)|fail);(conv=>whnf)))
  exact And.intro (AV.Le.refl _) rfl
 ·((conv=>whnf);repeat((first|apply TT mix|apply sE rfl|apply dG (by kernel_rfl)|fail);(conv=>whnf)))
  refine br_b rfl h (fun c2 h => ?_) (fun c2 h => ?_)
  ·((conv=>whnf);repeat((first|apply TT mix|apply sE rfl|apply dG (by kernel_rfl)|fail);(conv=>whnf)))
   refine And.intro (by decide) ?_
   ((conv=>whnf);repeat((first|apply TT mix|apply sE rfl|apply dG (by kernel_rfl)|fail);(conv=>whnf)))
   refine And.intro (by decide) ?_
   ((conv=>whnf);repeat((first|apply TT mix|apply sE rfl|apply dG (by kernel_rfl)|fail);(conv=>whnf)))
   refine ⟨[(IntKind.wrap .u8 (IntKind.wrap .i32 ((192 : Int) + (IntKind.wrap .i32 (Int.tdiv p_r (64 : Int)))))), (IntKind.wrap .u8 (IntKind.wrap .i32 ((128 : Int) + (Int.tmod p_r (64 : Int)))))], by first | rfl | simp, fun j hj => by first | rfl | exact lits_u8 _ j hj, ?_⟩
   have e := Option.some.inj h; subst e
   ((conv=>whnf);repeat((first|apply TT mix|apply sE rfl|apply dG (by kernel_rfl)|fail);(conv=>whnf)))
   exact And.intro (AV.Le.refl _) rfl
  ·((conv=>whnf);repeat((first|apply TT mix|apply sE rfl|apply dG (by kernel_rfl)|fail);(conv=>whnf)))
   refine br_b rfl h (fun c3 h => ?_) (fun c3 h => ?_)
   ·((conv=>whnf);repeat((first|apply TT mix|apply sE rfl|apply dG (by kernel_rfl)|fail);(conv=>whnf)))
    refine And.intro (by decide) ?_
    ((conv=>whnf);repeat((first|apply TT mix|apply sE rfl|apply dG (by kernel_rfl)|fail);(conv=>whnf)))
    refine And.intro (by decide) ?_
    ((conv=>whnf);repeat((first|apply TT mix|apply sE rfl|apply dG (by kernel_rfl)|fail);(conv=>whnf)))
    refine And.intro (by decide) ?_
    ((conv=>whnf);repeat((first|apply TT mix|apply sE rfl|apply dG (by kernel_rfl)|fail);(conv=>whnf)))
    refine And.intro (by decide) ?_
    ((conv=>whnf);repeat((first|apply TT mix|apply sE rfl|apply dG (by kernel_rfl)|fail);(conv=>whnf)))
    refine ⟨[(IntKind.wrap .u8 (IntKind.wrap .i32 ((224 : Int) + (IntKind.wrap .i32 (Int.tdiv p_r (4096 : Int)))))), (IntKind.wrap .u8 (IntKind.wrap .i32 ((128 : Int) + (Int.tmod (IntKind.wrap .i32 (Int.tdiv p_r (64 : Int))) (64 : Int))))), (IntKind.wrap .u8 (IntKind.wrap .i32 ((128 : Int) + (Int.tmod p_r (64 : Int)))))], by first | rfl | simp, fun j hj => by first | rfl | exact lits_u8 _ j hj, ?_⟩
    have e := Option.some.inj h; subst e
    ((conv=>whnf);repeat((first|apply TT mix|apply sE rfl|apply dG (by kernel_rfl)|fail);(conv=>whnf)))
    exact And.intro (AV.Le.refl _) rfl
   ·((conv=>whnf);repeat((first|apply TT mix|apply sE rfl|apply dG (by kernel_rfl)|fail);(conv=>whnf)))
    refine And.intro (by decide) ?_
    ((conv=>whnf);repeat((first|apply TT mix|apply sE rfl|apply dG (by kernel_rfl)|fail);(conv=>whnf)))
    refine And.intro (by decide) ?_
    ((conv=>whnf);repeat((first|apply TT mix|apply sE rfl|apply dG (by kernel_rfl)|fail);(conv=>whnf)))
    refine And.intro (by decide) ?_
    ((conv=>whnf);repeat((first|apply TT mix|apply sE rfl|apply dG (by kernel_rfl)|fail);(conv=>whnf)))
    refine And.intro (by decide) ?_
    ((conv=>whnf);repeat((first|apply TT mix|apply sE rfl|apply dG (by kernel_rfl)|fail);(conv=>whnf)))
    refine And.intro (by decide) ?_
    ((conv=>whnf);repeat((first|apply TT mix|apply sE rfl|apply dG (by kernel_rfl)|fail);(conv=>whnf)))
    refine And.intro (by decide) ?_
    ((conv=>whnf);repeat((first|apply TT mix|apply sE rfl|apply dG (by kernel_rfl)|fail);(conv=>whnf)))
    refine ⟨[(IntKind.wrap .u8 (IntKind.wrap .i32 ((240 : Int) + (IntKind.wrap .i32 (Int.tdiv p_r (262144 : Int)))))), (IntKind.wrap .u8 (IntKind.wrap .i32 ((128 : Int) + (Int.tmod (IntKind.wrap .i32 (Int.tdiv p_r (4096 : Int))) (64 : Int))))), (IntKind.wrap .u8 (IntKind.wrap .i32 ((128 : Int) + (Int.tmod (IntKind.wrap .i32 (Int.tdiv p_r (64 : Int))) (64 : Int))))), (IntKind.wrap .u8 (IntKind.wrap .i32 ((128 : Int) + (Int.tmod p_r (64 : Int)))))], by first | rfl | simp, fun j hj => by first | rfl | exact lits_u8 _ j hj, ?_⟩
    have e := Option.some.inj h; subst e
    ((conv=>whnf);repeat((first|apply TT mix|apply sE rfl|apply dG (by kernel_rfl)|fail);(conv=>whnf)))
    exact And.intro (AV.Le.refl _) rfl
theorem c_eponymref01_some (p_a : Int) (p_b : Int) (p_n : Int) (r : Bool) (h : m_eponymref01_some p_a p_b p_n = some r) : Contract pl 86 [(AV.int .i32 p_a), (AV.int .i32 p_b), (AV.int .i64 p_n)] [] (AV.bool r) [] := by
 refine contract_of (.t false .z (.t false .z (.t false .z (.t true .z (.t true .z (.t true .z (.t true .z (.t false (.t true .z .z) .z)))))))) Tryd.func86 rfl (by kernel_rfl) ?_
 ((conv=>whnf);repeat((first|apply TT mix|apply sE rfl|apply dG (by kernel_rfl)|fail);(conv=>whnf)))
 refine bnd h (fun x11 h11 h => ?_)
 refine cut_at (fun s1 : Int × Int => mkF 30 [(0, (.int .i32 p_a)), (1, (.int .i32 p_b)), (2, (.int .i64 p_n)), (7, (.int .i32 s1.1)), (8, (.int .i32 s1.2))] []) (fun s1 : Int × Int => m_eponymref01_some_K2 p_a p_b p_n s1 = some r) ?_ ?_
 ·intro Kn11 hn11
  ((conv=>whnf);repeat((first|apply TT mix|apply sE rfl|apply dG (by kernel_rfl)|fail);(conv=>whnf)))
  refine br_b rfl h11 (fun c12 h11 => ?_) (fun c12 h11 => ?_)
  ·have e := Option.some.inj h11; subst e
   ((conv=>whnf);repeat((first|apply TT mix|apply sE rfl|apply dG (by kernel_rfl)|fail);(conv=>whnf)))
   exact hn11 _ ((2048 : Int), (65535 : Int)) h (weak_gen [] rfl rfl storeLe.nil (sQ rfl rfl))
  ·have e := Option.some.inj h11; subst e
   ((conv=>whnf);repeat((first|apply TT mix|apply sE rfl|apply dG (by kernel_rfl)|fail);(conv=>whnf)))
   exact hn11 _ ((128 : Int), (2047 : Int)) h (weak_gen [] rfl rfl storeLe.nil (sQ rfl rfl))
 ·clear h h11
  intro s1 hc13
  ((conv=>whnf);repeat((first|apply TT mix|apply sE rfl|apply dG (by kernel_rfl)|fail);(conv=>whnf)))
  refine bnd hc13 (fun x14 h14 hc13 => ?_)
  refine cut_at (fun s3 : Int × Int => mkF 30 [(0, (.int .i32 p_a)), (1, (.int .i32 p_b)), (7, (.int .i32 s3.1)), (8, (.int .i32 s3.2))] []) (fun s3 : Int × Int => m_eponymref01_some_K4 p_a p_b s3 = some r) ?_ ?_
  ·intro Kn14 hn14
   ((conv=>whnf);repeat((first|apply TT mix|apply sE rfl|apply dG (by kernel_rfl)|fail);(conv=>whnf)))
   refine br_b rfl h14 (fun c15 h14 => ?_) (fun c15 h14 => ?_)
   ·have e := Option.some.inj h14; subst e
    ((conv=>whnf);repeat((first|apply TT mix|apply sE rfl|apply dG (by kernel_rfl)|fail);(conv=>whnf)))
    exact hn14 _ ((65536 : Int), (1114111 : Int)) hc13 (weak_gen [] rfl rfl storeLe.nil (sQ rfl rfl))
   ·have e := Option.some.inj h14; subst e
    ((conv=>whnf);repeat((first|apply TT mix|apply sE rfl|apply dG (by kernel_rfl)|fail);(conv=>whnf)))
    exact hn14 _ (s1.1, s1.2) hc13 (weak_gen [] rfl rfl storeLe.nil (sQ rfl rfl))
  ·clear hc13 h14
   intro s3 hc16
   ((conv=>whnf);repeat((first|apply TT mix|apply sE rfl|apply dG (by kernel_rfl)|fail);(conv=>whnf)))
   refine bnd hc16 (fun x17 h17 hc16 => ?_)
   refine cut_at (fun s5 : Int => mkF 30 [(0, (.int .i32 s5)), (1, (.int .i32 p_b)), (8, (.int .i32 s3.2))] []) (fun s5 : Int => m_eponymref01_some_K6 p_b s3 s5 = some r) ?_ ?_
   ·intro Kn17 hn17
    ((conv=>whnf);repeat((first|apply TT mix|apply sE rfl|apply dG (by kernel_rfl)|fail);(conv=>whnf)))
    refine br_b rfl h17 (fun c18 h17 => ?_) (fun c18 h17 => ?_)
    ·have e := Option.some.inj h17; subst e
     ((conv=>whnf);repeat((first|apply TT mix|apply sE rfl|apply dG (by kernel_rfl)|fail);(conv=>whnf)))
     exact hn17 _ s3.1 hc16 (weak_gen [] rfl rfl storeLe.nil (sQ rfl rfl))
    ·have e := Option.some.inj h17; subst e
     ((conv=>whnf);repeat((first|apply TT mix|apply sE rfl|apply dG (by kernel_rfl)|fail);(conv=>whnf)))
     exact hn17 _ p_a hc16 (weak_gen [] rfl rfl storeLe.nil (sQ rfl rfl))
   ·clear hc16 h17
    intro s5 hc19
    ((conv=>whnf);repeat((first|apply TT mix|apply sE rfl|apply dG (by kernel_rfl)|fail);(conv=>whnf)))
    refine bnd hc19 (fun x20 h20 hc19 => ?_)
    refine cut_at (fun s7 : Int => mkF 30 [(0, (.int .i32 s5)), (1, (.int .i32 s7))] []) (fun s7 : Int => m_eponymref01_some_K8 s5 s7 = some r) ?_ ?_
    ·intro Kn20 hn20
     ((conv=>whnf);repeat((first|apply TT mix|apply sE rfl|apply dG (by kernel_rfl)|fail);(conv=>whnf)))
     refine br_b rfl h20 (fun c21 h20 => ?_) (fun c21 h20 => ?_)
     ·have e := Option.some.inj h20; subst e
      ((conv=>whnf);repeat((first|apply TT mix|apply sE rfl|apply dG (by kernel_rfl)|fail);(conv=>whnf)))
      exact hn20 _ s3.2 hc19 (weak_gen [] rfl rfl storeLe.nil (sQ rfl rfl))
     ·have e := Option.some.inj h20; subst e
      ((conv=>whnf);repeat((first|apply TT mix|apply sE rfl|apply dG (by kernel_rfl)|fail);(conv=>whnf)))
      exact hn20 _ p_b hc19 (weak_gen [] rfl rfl storeLe.nil (sQ rfl rfl))
    ·clear hc19 h20
     intro s7 hc22
     ((conv=>whnf);repeat((first|apply TT mix|apply sE rfl|apply dG (by kernel_rfl)|fail);(conv=>whnf)))
     refine bnd hc22 (fun x23 h23 hc22 => ?_)
     refine cut_at (fun s9 : Bool => mkF 30 [(0, (.int .i32 s5)), (1, (.int .i32 s7)), (26, (.bool s9))] []) (fun s9 : Bool => m_eponymref01_some_K10 s5 s7 s9 = some r) ?_ ?_
     ·intro Kn23 hn23
      ((conv=>whnf);repeat((first|apply TT mix|apply sE rfl|apply dG (by kernel_rfl)|fail);(conv=>whnf)))
      refine br_b rfl h23 (fun c24 h23 => ?_) (fun c24 h23 => ?_)
      ·have e := Option.some.inj h23; subst e
       ((conv=>whnf);repeat((first|apply TT mix|apply sE rfl|apply dG (by kernel_rfl)|fail);(conv=>whnf)))
       exact hn23 _ (decide (s5 ≤ (57343 : Int))) hc22 (weak_gen [] rfl rfl storeLe.nil (sQ rfl rfl))
      ·have e := Option.some.inj h23; subst e
       ((conv=>whnf);repeat((first|apply TT mix|apply sE rfl|apply dG (by kernel_rfl)|fail);(conv=>whnf)))
       exact hn23 _ false hc22 (weak_gen [] rfl rfl storeLe.nil (sQ rfl rfl))
     ·clear hc22 h23
      intro s9 hc25
      ((conv=>whnf);repeat((first|apply TT mix|apply sE rfl|apply dG (by kernel_rfl)|fail);(conv=>whnf)))
      refine br_b rfl hc25 (fun c26 hc25 => ?_) (fun c26 hc25 => ?_)
      ·have e := Option.some.inj hc25; subst e
       ((conv=>whnf);repeat((first|apply TT mix|apply sE rfl|apply dG (by kernel_rfl)|fail);(conv=>whnf)))
       exact And.intro (AV.Le.refl _) rfl
      ·have e := Option.some.inj hc25; subst e
       ((conv=>whnf);repeat((first|apply TT mix|apply sE rfl|apply dG (by kernel_rfl)|fail);(conv=>whnf)))
       exact And.intro (AV.Le.refl _) rfl
theorem c_eponymref01_Next (p_s : ByteArray) (p_at : Int) (r : Int × Int × Int) (h : m_eponymref01_Next p_s p_at = some r) : Contract pl 63 [(AV.str p_s), (AV.int .i64 p_at)] [] (AV.tup [(AV.int .i32 r.1), (AV.int .i64 r.2.1), (AV.int .i64 r.2.2)]) [] := by
 refine contract_of (.t false .z (.t true (.t false .z (.t false (.t false (.t false (.t true .z .z) (.t false (.t false (.t false .z (.t true .z .z)) .z) .z)) .z) .z)) (.t false .z (.t true (.t false .z (.t false (.t false (.t false .z (.t true (.t false (.t false .z (.t false .z (.t true .z (.t false .z (.t false .z (.t true .z .z)))))) .z) .z)) .z) .z)) .z)))) Tryd.func63 rfl (by kernel_rfl) ?_
 ((conv=>whnf);repeat((first|apply TT mix|apply sE rfl|apply dG (by kernel_rfl)|fail);(conv=>whnf)))
 refine bnd h (fun x41 h41 h => ?_)
 refine cut_at (fun s1 : Unit => mkF 89 [(0, (.str p_s)), (1, (.int .i64 p_at))] []) (fun s1 : Unit => m_eponymref01_Next_K2 p_s p_at s1 = some r) ?_ ?_
 ·intro Kn41 hn41
  ((conv=>whnf);repeat((first|apply TT mix|apply sE rfl|apply dG (by kernel_rfl)|fail);(conv=>whnf)))
  refine loop_iter (fun s28 : Int => mkF 89 [(0, (.str p_s)), (1, (.int .i64 p_at)), (7, (.int .i64 s28))] []) h41 (weak_gen [] rfl rfl storeLe.nil (sQ rfl rfl)) ?_
  intro k30 s28 st30 Kn30 hn30 h30_ hs30
  ((conv=>whnf);repeat((first|apply TT mix|apply sE rfl|apply dG (by kernel_rfl)|fail);(conv=>whnf)))
  refine bnd h30_ (fun x42 h42 h30_ => ?_)
  refine cut_at (fun s31 : Bool => mkF 89 [(0, (.str p_s)), (1, (.int .i64 p_at)), (7, (.int .i64 s28)), (24, (.bool s31))] []) (fun s31 : Bool => m_eponymref01_Next_K32 p_s p_at s28 s31 = some st30) ?_ ?_
  ·intro Kn42 hn42
   ((conv=>whnf);repeat((first|apply TT mix|apply sE rfl|apply dG (by kernel_rfl)|fail);(conv=>whnf)))
   refine br_b rfl h42 (fun c43 h42 => ?_) (fun c43 h42 => ?_)
   ·have e := Option.some.inj h42; subst e
    ((conv=>whnf);repeat((first|apply TT mix|apply sE rfl|apply dG (by kernel_rfl)|fail);(conv=>whnf)))
    exact hn42 _ (decide ((IntKind.wrap .i64 (p_at + s28)) ≤ ((p_s.size : Nat) : Int))) h30_ (weak_gen [] rfl rfl storeLe.nil (sQ rfl rfl))
   ·have e := Option.some.inj h42; subst e
    ((conv=>whnf);repeat((first|apply TT mix|apply sE rfl|apply dG (by kernel_rfl)|fail);(conv=>whnf)))
    exact hn42 _ false h30_ (weak_gen [] rfl rfl storeLe.nil (sQ rfl rfl))
  ·clear h30_ h42
   intro s31 hc44
   ((conv=>whnf);repeat((first|apply TT mix|apply sE rfl|apply dG (by kernel_rfl)|fail);(conv=>whnf)))
   refine br_b rfl hc44 (fun c45 hc44 => ?_) (fun c45 hc44 => ?_)
   ·((conv=>whnf);repeat((first|apply TT mix|apply sE rfl|apply dG (by kernel_rfl)|fail);(conv=>whnf)))
    have ghc44 := gOf hc44
    refine grd3 rfl rfl rfl hc44 (fun hc44 => ?_)
    ((conv=>whnf);repeat((first|apply TT mix|apply sE rfl|apply dG (by kernel_rfl)|fail);(conv=>whnf)))
    refine bnd hc44 (fun y33 hy33 hc44 => ?_)
    refine Or.inl ⟨_, c_eponymref01_value _ _ hy33, rfl, ?_⟩
    ((conv=>whnf);repeat((first|apply TT mix|apply sE rfl|apply dG (by kernel_rfl)|fail);(conv=>whnf)))
    refine bnd hc44 (fun x46 h46 hc44 => ?_)
    refine cut_at (fun s34 : Bool => mkF 89 [(0, (.str p_s)), (1, (.int .i64 p_at)), (7, (.int .i64 s28)), (8, (.int .i32 y33)), (50, (.bool s34))] []) (fun s34 : Bool => m_eponymref01_Next_K35 s28 y33 s34 = some st30) ?_ ?_
    ·intro Kn46 hn46
     ((conv=>whnf);repeat((first|apply TT mix|apply sE rfl|apply dG (by kernel_rfl)|fail);(conv=>whnf)))
     refine br_b rfl h46 (fun c47 h46 => ?_) (fun c47 h46 => ?_)
     ·((conv=>whnf);repeat((first|apply TT mix|apply sE rfl|apply dG (by kernel_rfl)|fail);(conv=>whnf)))
      refine bnd h46 (fun y36 hy36 h46 => ?_)
      refine Or.inl ⟨_, c_eponymref01_Right _ _ hy36, rfl, ?_⟩
      ((conv=>whnf);repeat((first|apply TT mix|apply sE rfl|apply dG (by kernel_rfl)|fail);(conv=>whnf)))
      refine br_b rfl h46 (fun c48 h46 => ?_) (fun c48 h46 => ?_)
      ·((conv=>whnf);repeat((first|apply TT mix|apply sE rfl|apply dG (by kernel_rfl)|fail);(conv=>whnf)))
       refine bnd h46 (fun y37 hy37 h46 => ?_)
       refine Or.inl ⟨_, c_eponymref01_Form _ _ hy37, rfl, ?_⟩
       ((conv=>whnf);repeat((first|apply TT mix|apply sE rfl|apply dG (by kernel_rfl)|fail);(conv=>whnf)))
       have gh46 := gOf h46
       refine grd3 rfl rfl rfl h46 (fun h46 => ?_)
       have e := Option.some.inj h46; subst e
       ((conv=>whnf);repeat((first|apply TT mix|apply sE rfl|apply dG (by kernel_rfl)|fail);(conv=>whnf)))
       exact hn46 _ (y37.toList == (p_s.extract (p_at.toNat) ((IntKind.wrap .i64 (p_at + s28)).toNat)).toList) hc44 (weak_gen [] rfl rfl storeLe.nil (sQ rfl rfl))
      ·have e := Option.some.inj h46; subst e
       ((conv=>whnf);repeat((first|apply TT mix|apply sE rfl|apply dG (by kernel_rfl)|fail);(conv=>whnf)))
       exact hn46 _ false hc44 (weak_gen [] rfl rfl storeLe.nil (sQ rfl rfl))
     ·have e := Option.some.inj h46; subst e
      ((conv=>whnf);repeat((first|apply TT mix|apply sE rfl|apply dG (by kernel_rfl)|fail);(conv=>whnf)))
      exact hn46 _ false hc44 (weak_gen [] rfl rfl storeLe.nil (sQ rfl rfl))
    ·clear hc44 h46
     intro s34 hc49
     ((conv=>whnf);repeat((first|apply TT mix|apply sE rfl|apply dG (by kernel_rfl)|fail);(conv=>whnf)))
     refine br_b rfl hc49 (fun c50 hc49 => ?_) (fun c50 hc49 => ?_)
     ·have e := Option.some.inj hc49; subst e
      have e := done_out hs30; subst e
      have e := Option.some.inj h; subst e
      ((conv=>whnf);repeat((first|apply TT mix|apply sE rfl|apply dG (by kernel_rfl)|fail);(conv=>whnf)))
      exact And.intro (AV.Le.refl _) rfl
     ·have e := Option.some.inj hc49; subst e
      ((conv=>whnf);repeat((first|apply TT mix|apply sE rfl|apply dG (by kernel_rfl)|fail);(conv=>whnf)))
      exact hn30 _ (IntKind.wrap .i64 (s28 + (1 : Int))) hs30 (weak_gen [] rfl rfl storeLe.nil (sQ rfl rfl))
   ·have e := Option.some.inj hc44; subst e
    have e := done_out hs30; subst e
    ((conv=>whnf);repeat((first|apply TT mix|apply sE rfl|apply dG (by kernel_rfl)|fail);(conv=>whnf)))
    exact hn41 _ () h (weak_gen [] rfl rfl storeLe.nil (sQ rfl rfl))
 ·clear h h41
  intro s1 hc51
  ((conv=>whnf);repeat((first|apply TT mix|apply sE rfl|apply dG (by kernel_rfl)|fail);(conv=>whnf)))
  have ghc51 := gOf hc51
  refine grd3 rfl rfl rfl hc51 (fun hc51 => ?_)
  ((conv=>whnf);repeat((first|apply TT mix|apply sE rfl|apply dG (by kernel_rfl)|fail);(conv=>whnf)))
  refine bnd hc51 (fun x52 h52 hc51 => ?_)
  refine cut_at (fun s3 : Unit => mkF 89 [] []) (fun s3 : Unit => some ((0 : Int), (0 : Int), (1 : Int)) = some r) ?_ ?_
  ·intro Kn52 hn52
   ((conv=>whnf);repeat((first|apply TT mix|apply sE rfl|apply dG (by kernel_rfl)|fail);(conv=>whnf)))
   refine loop_iter (fun s6 : Int => mkF 89 [(9, (.str (p_s.extract (p_at.toNat) p_s.size))), (10, (.int .i64 s6))] []) h52 (weak_gen [] rfl rfl storeLe.nil (sQ rfl rfl)) ?_
   intro k8 s6 st8 Kn8 hn8 h8_ hs8
   ((conv=>whnf);repeat((first|apply TT mix|apply sE rfl|apply dG (by kernel_rfl)|fail);(conv=>whnf)))
   refine br_b rfl h8_ (fun c53 h8_ => ?_) (fun c53 h8_ => ?_)
   ·((conv=>whnf);repeat((first|apply TT mix|apply sE rfl|apply dG (by kernel_rfl)|fail);(conv=>whnf)))
    refine bnd h8_ (fun x54 h54 h8_ => ?_)
    refine cut_at (fun s9 : Unit => mkF 89 [(9, (.str (p_s.extract (p_at.toNat) p_s.size))), (10, (.int .i64 s6))] []) (fun s9 : Unit => some (.next (IntKind.wrap .i64 (s6 + (1 : Int)))) = some st8) ?_ ?_
    ·intro Kn54 hn54
     ((conv=>whnf);repeat((first|apply TT mix|apply sE rfl|apply dG (by kernel_rfl)|fail);(conv=>whnf)))
     refine bnd h54 (fun x55 h55 h54 => ?_)
     refine cut_at (fun s11 : ByteArray × ByteArray => mkF 89 [(9, (.str (p_s.extract (p_at.toNat) p_s.size))), (10, (.int .i64 s6)), (11, (.str s11.1)), (12, (.str s11.2))] []) (fun s11 : ByteArray × ByteArray => m_eponymref01_Next_K12 s6 s11 = some x54) ?_ ?_
     ·intro Kn55 hn55
      ((conv=>whnf);repeat((first|apply TT mix|apply sE rfl|apply dG (by kernel_rfl)|fail);(conv=>whnf)))
      refine loop_iter (fun s19 : ByteArray × ByteArray => mkF 89 [(9, (.str (p_s.extract (p_at.toNat) p_s.size))), (10, (.int .i64 s6)), (11, (.str s19.1)), (12, (.str s19.2))] []) h55 (weak_gen [] rfl rfl storeLe.nil (sQ rfl rfl)) ?_
      intro k21 s19 st21 Kn21 hn21 h21_ hs21
      ((conv=>whnf);repeat((first|apply TT mix|apply sE rfl|apply dG (by kernel_rfl)|fail);(conv=>whnf)))
      refine br_b rfl h21_ (fun c56 h21_ => ?_) (fun c56 h21_ => ?_)
      ·((conv=>whnf);repeat((first|apply TT mix|apply sE rfl|apply dG (by kernel_rfl)|fail);(conv=>whnf)))
       refine grd1 rfl h21_ (fun h21_ => ?_)
       ((conv=>whnf);repeat((first|apply TT mix|apply sE rfl|apply dG (by kernel_rfl)|fail);(conv=>whnf)))
       refine grd1 rfl h21_ (fun h21_ => ?_)
       have e := Option.some.inj h21_; subst e
       ((conv=>whnf);repeat((first|apply TT mix|apply sE rfl|apply dG (by kernel_rfl)|fail);(conv=>whnf)))
       exact hn21 _ ((s19.1 ++ (ByteArray.mk #[128])), (s19.2 ++ (ByteArray.mk #[191]))) hs21 (weak_gen [] rfl rfl storeLe.nil (sQ rfl rfl))
      ·have e := Option.some.inj h21_; subst e
       have e := done_out hs21; subst e
       ((conv=>whnf);repeat((first|apply TT mix|apply sE rfl|apply dG (by kernel_rfl)|fail);(conv=>whnf)))
       exact hn55 _ (s19.1, s19.2) h54 (weak_gen [] rfl rfl storeLe.nil (sQ rfl rfl))
     ·clear h54 h55
      intro s11 hc57
      ((conv=>whnf);repeat((first|apply TT mix|apply sE rfl|apply dG (by kernel_rfl)|fail);(conv=>whnf)))
      refine bnd hc57 (fun y13 hy13 hc57 => ?_)
      refine Or.inl ⟨_, c_eponymref01_value _ _ hy13, rfl, ?_⟩
      ((conv=>whnf);repeat((first|apply TT mix|apply sE rfl|apply dG (by kernel_rfl)|fail);(conv=>whnf)))
      refine bnd hc57 (fun y14 hy14 hc57 => ?_)
      refine Or.inl ⟨_, c_eponymref01_value _ _ hy14, rfl, ?_⟩
      ((conv=>whnf);repeat((first|apply TT mix|apply sE rfl|apply dG (by kernel_rfl)|fail);(conv=>whnf)))
      refine bnd hc57 (fun x58 h58 hc57 => ?_)
      refine cut_at (fun s15 : Bool => mkF 89 [(9, (.str (p_s.extract (p_at.toNat) p_s.size))), (10, (.int .i64 s6)), (88, (.bool s15))] []) (fun s15 : Bool => m_eponymref01_Next_K16 s15 = some x54) ?_ ?_
      ·intro Kn58 hn58
       ((conv=>whnf);repeat((first|apply TT mix|apply sE rfl|apply dG (by kernel_rfl)|fail);(conv=>whnf)))
       refine br_b rfl h58 (fun c59 h58 => ?_) (fun c59 h58 => ?_)
       ·((conv=>whnf);repeat((first|apply TT mix|apply sE rfl|apply dG (by kernel_rfl)|fail);(conv=>whnf)))
        refine br_b rfl h58 (fun c60 h58 => ?_) (fun c60 h58 => ?_)
        ·((conv=>whnf);repeat((first|apply TT mix|apply sE rfl|apply dG (by kernel_rfl)|fail);(conv=>whnf)))
         refine bnd h58 (fun y17 hy17 h58 => ?_)
         refine Or.inl ⟨_, c_eponymref01_some _ _ _ _ hy17, rfl, ?_⟩
         have e := Option.some.inj h58; subst e
         ((conv=>whnf);repeat((first|apply TT mix|apply sE rfl|apply dG (by kernel_rfl)|fail);(conv=>whnf)))
         exact hn58 _ y17 hc57 (weak_gen [] rfl rfl storeLe.nil (sQ rfl rfl))
        ·have e := Option.some.inj h58; subst e
         ((conv=>whnf);repeat((first|apply TT mix|apply sE rfl|apply dG (by kernel_rfl)|fail);(conv=>whnf)))
         exact hn58 _ false hc57 (weak_gen [] rfl rfl storeLe.nil (sQ rfl rfl))
       ·have e := Option.some.inj h58; subst e
        ((conv=>whnf);repeat((first|apply TT mix|apply sE rfl|apply dG (by kernel_rfl)|fail);(conv=>whnf)))
        exact hn58 _ false hc57 (weak_gen [] rfl rfl storeLe.nil (sQ rfl rfl))
      ·clear hc57 h58
       intro s15 hc61
       ((conv=>whnf);repeat((first|apply TT mix|apply sE rfl|apply dG (by kernel_rfl)|fail);(conv=>whnf)))
       refine br_b rfl hc61 (fun c62 hc61 => ?_) (fun c62 hc61 => ?_)
       ·have e := Option.some.inj hc61; subst e
        have e := Option.some.inj h8_; subst e
        have e := done_out hs8; subst e
        have e := Option.some.inj hc51; subst e
        ((conv=>whnf);repeat((first|apply TT mix|apply sE rfl|apply dG (by kernel_rfl)|fail);(conv=>whnf)))
        exact And.intro (AV.Le.refl _) rfl
       ·have e := Option.some.inj hc61; subst e
        ((conv=>whnf);repeat((first|apply TT mix|apply sE rfl|apply dG (by kernel_rfl)|fail);(conv=>whnf)))
        exact hn54 _ () h8_ (weak_gen [] rfl rfl storeLe.nil (sQ rfl rfl))
    ·clear h8_ h54
     intro s9 hc63
     have e := Option.some.inj hc63; subst e
     ((conv=>whnf);repeat((first|apply TT mix|apply sE rfl|apply dG (by kernel_rfl)|fail);(conv=>whnf)))
     exact hn8 _ (IntKind.wrap .i64 (s6 + (1 : Int))) hs8 (weak_gen [] rfl rfl storeLe.nil (sQ rfl rfl))
   ·have e := Option.some.inj h8_; subst e
    have e := done_out hs8; subst e
    ((conv=>whnf);repeat((first|apply TT mix|apply sE rfl|apply dG (by kernel_rfl)|fail);(conv=>whnf)))
    exact hn52 _ () hc51 (weak_gen [] rfl rfl storeLe.nil slotsLe.nil)
  ·clear hc51 h52
   intro s3 hc64
   have e := Option.some.inj hc64; subst e
   ((conv=>whnf);repeat((first|apply TT mix|apply sE rfl|apply dG (by kernel_rfl)|fail);(conv=>whnf)))
   exact And.intro (AV.Le.refl _) rfl
theorem c_eponymref01_Decode (p_s : ByteArray) (r : (List Int) × Int × Int) (h : m_eponymref01_Decode p_s = some r) : Contract pl 36 [(AV.str p_s)] [] (AV.tup [(e_L_i32 r.1), (AV.int .i64 r.2.1), (AV.int .i64 r.2.2)]) [] := by
 refine contract_of (.t false .z (.t false .z (.t false .z (.t true .z .z)))) Tryd.func36 rfl (by kernel_rfl) ?_
 ((conv=>whnf);repeat((first|apply TT mix|apply sE rfl|apply dG (by kernel_rfl)|fail);(conv=>whnf)))
 refine bnd h (fun x11 h11 h => ?_)
 refine cut_at (fun s1 : (List Int) => mkF 33 [(5, (.ms 0 s1.length))] [some ⟨1, 21, (.ints .i32 s1), false, true⟩]) (fun s1 : (List Int) => some (s1, (0 : Int), (0 : Int)) = some r) ?_ ?_
 ·intro Kn11 hn11
  ((conv=>whnf);repeat((first|apply TT mix|apply sE rfl|apply dG (by kernel_rfl)|fail);(conv=>whnf)))
  refine loop_iter (fun s4 : (List Int) × Int => mkF 33 [(0, (.str p_s)), (5, (.ms 0 s4.1.length)), (6, (.int .i64 s4.2))] [some ⟨1, 21, (.ints .i32 s4.1), false, true⟩]) h11 (weak_trans (weak_nil 5 1 21 (.ints .i32 []) _ rfl rfl trivial (Nat.zero_le _)) (weak_gen [0] rfl rfl (sK rfl (rowLe_ints (by first | rfl | simp)) storeLe.nil) (sQ rfl rfl))) ?_
  intro k6 s4 st6 Kn6 hn6 h6_ hs6
  ((conv=>whnf);repeat((first|apply TT mix|apply sE rfl|apply dG (by kernel_rfl)|fail);(conv=>whnf)))
  refine br_b rfl h6_ (fun c12 h6_ => ?_) (fun c12 h6_ => ?_)
  ·((conv=>whnf);repeat((first|apply TT mix|apply sE rfl|apply dG (by kernel_rfl)|fail);(conv=>whnf)))
   refine bnd h6_ (fun y7 hy7 h6_ => ?_)
   refine Or.inl ⟨_, c_eponymref01_Next _ _ _ hy7, rfl, ?_⟩
   ((conv=>whnf);repeat((first|apply TT mix|apply sE rfl|apply dG (by kernel_rfl)|fail);(conv=>whnf)))
   refine br_b rfl h6_ (fun c13 h6_ => ?_) (fun c13 h6_ => ?_)
   ·have e := Option.some.inj h6_; subst e
    have e := done_out hs6; subst e
    have e := Option.some.inj h; subst e
    ((conv=>whnf);repeat((first|apply TT mix|apply sE rfl|apply dG (by kernel_rfl)|fail);(conv=>whnf)))
    exact And.intro (AV.Le.tup (argsLe.cons (AV.Le.list rfl (fun j hj => absurd hj (Nat.not_lt_zero _))) (argsLe.cons (AV.Le.refl _) (argsLe.cons (AV.Le.refl _) argsLe.nil)))) rfl
   ·((conv=>whnf);repeat((first|apply TT mix|apply sE rfl|apply dG (by kernel_rfl)|fail);(conv=>whnf)))
    obtain ⟨p14, h6_⟩ := grdO h6_
    refine ⟨[], 1, (.ints .i32 [y7.1]), ⟨by simp [Row.len] <;> omega, rfl, _, rfl, by simp [Row.len] <;> omega, fun j hj => .inl rfl⟩, trivial, fun j hj => rfl, ?_⟩
    conv => whnf
    refine ⟨by simp [Row.len]; try omega, p14, by omega, ?_⟩
    have e := Option.some.inj h6_; subst e
    ((conv=>whnf);repeat((first|apply TT mix|apply sE rfl|apply dG (by kernel_rfl)|fail);(conv=>whnf)))
    exact hn6 _ ((s4.1 ++ [y7.1]), (IntKind.wrap .i64 (s4.2 + y7.2.1))) hs6 (weak_gen [2] rfl rfl (sK rfl (rowLe_ints (by first | rfl | simp)) storeLe.nil) (slotsLe.cons (cR rfl rfl) (slotsLe.cons (And.intro rfl (AV.Le.of_eq (congrArg (AV.ms _) (by first | rfl | omega | (simp; omega) | simp)))) (slotsLe.cons (cR rfl rfl) slotsLe.nil))))
  ·have e := Option.some.inj h6_; subst e
   have e := done_out hs6; subst e
   ((conv=>whnf);repeat((first|apply TT mix|apply sE rfl|apply dG (by kernel_rfl)|fail);(conv=>whnf)))
   exact hn11 _ s4.1 h (weak_gen [0] rfl rfl (sK rfl (rowLe_ints (by first | rfl | simp)) storeLe.nil) (slotsLe.cons (And.intro rfl (AV.Le.of_eq (congrArg (AV.ms _) (by first | rfl | omega | (simp; omega) | simp)))) slotsLe.nil))
 ·clear h h11
  intro s1 hc15
  have e := Option.some.inj hc15; subst e
  ((conv=>whnf);repeat((first|apply TT mix|apply sE rfl|apply dG (by kernel_rfl)|fail);(conv=>whnf)))
  exact And.intro (AV.Le.refl _) rfl
theorem c_eponymref19_in (p_l : (List Int)) (p_r : Int) (r : Bool) (h : m_eponymref19_in p_l p_r = some r) : Contract pl 38 [(e_L_i32 p_l), (AV.int .i32 p_r)] [] (AV.bool r) [] := by
 refine contract_of (.t false .z (.t true .z .z)) Tryd.func38 rfl (by kernel_rfl) ?_
 ((conv=>whnf);repeat((first|apply TT mix|apply sE rfl|apply dG (by kernel_rfl)|fail);(conv=>whnf)))
 refine bnd h (fun x10 h10 h => ?_)
 refine cut_at (fun s1 : Unit => mkF 18 [] []) (fun s1 : Unit => some false = some r) ?_ ?_
 ·intro Kn10 hn10
  ((conv=>whnf);repeat((first|apply TT mix|apply sE rfl|apply dG (by kernel_rfl)|fail);(conv=>whnf)))
  refine loop_iter (fun s4 : Int => mkF 18 [(0, (e_L_i32 p_l)), (1, (.int .i32 p_r)), (5, (.int .i64 s4))] []) h10 (weak_gen [] rfl rfl storeLe.nil (sQ rfl rfl)) ?_
  intro k6 s4 st6 Kn6 hn6 h6_ hs6
  ((conv=>whnf);repeat((first|apply TT mix|apply sE rfl|apply dG (by kernel_rfl)|fail);(conv=>whnf)))
  refine br_b rfl h6_ (fun c11 h6_ => ?_) (fun c11 h6_ => ?_)
  ·((conv=>whnf);repeat((first|apply TT mix|apply sE rfl|apply dG (by kernel_rfl)|fail);(conv=>whnf)))
   refine grd2 rfl rfl h6_ (fun h6_ => ?_)
   ((conv=>whnf);repeat((first|apply TT mix|apply sE rfl|apply dG (by kernel_rfl)|fail);(conv=>whnf)))
   refine br_b rfl h6_ (fun c12 h6_ => ?_) (fun c12 h6_ => ?_)
   ·have e := Option.some.inj h6_; subst e
    have e := done_out hs6; subst e
    have e := Option.some.inj h; subst e
    ((conv=>whnf);repeat((first|apply TT mix|apply sE rfl|apply dG (by kernel_rfl)|fail);(conv=>whnf)))
    exact And.intro (AV.Le.refl _) rfl
   ·have e := Option.some.inj h6_; subst e
    ((conv=>whnf);repeat((first|apply TT mix|apply sE rfl|apply dG (by kernel_rfl)|fail);(conv=>whnf)))
    exact hn6 _ (IntKind.wrap .i64 (s4 + (1 : Int))) hs6 (weak_gen [] rfl rfl storeLe.nil (sQ rfl rfl))
  ·have e := Option.some.inj h6_; subst e
   have e := done_out hs6; subst e
   ((conv=>whnf);repeat((first|apply TT mix|apply sE rfl|apply dG (by kernel_rfl)|fail);(conv=>whnf)))
   exact hn10 _ () h (weak_gen [] rfl rfl storeLe.nil slotsLe.nil)
 ·clear h h10
  intro s1 hc13
  have e := Option.some.inj hc13; subst e
  ((conv=>whnf);repeat((first|apply TT mix|apply sE rfl|apply dG (by kernel_rfl)|fail);(conv=>whnf)))
  exact And.intro (AV.Le.refl _) rfl
theorem c_eponymref19_Check (p_f : T_api_Family) (r : Int × Int) (h : m_eponymref19_Check p_f = some r) : Contract pl 18 [(e_api_Family p_f)] [] (AV.tup [(AV.int .i64 r.1), (AV.int .i64 r.2)]) [] := by
 refine contract_of (.t false .z (.t false .z (.t false (.t true .z .z) (.t false .z (.t true .z (.t false .z (.t true (.t false .z (.t false (.t false (.t false .z (.t true (.t false (.t false .z (.t false .z (.t true .z (.t true .z (.t false (.t true .z .z) (.t false .z (.t false (.t false (.t false .z (.t true .z .z)) .z) .z))))))) .z) .z)) .z) .z)) .z))))))) Tryd.func18 rfl (by kernel_rfl) ?_
 ((conv=>whnf);repeat((first|apply TT mix|apply sE rfl|apply dG (by kernel_rfl)|fail);(conv=>whnf)))
 refine bnd h (fun y1 hy1 h => ?_)
 refine Or.inl ⟨_, c_eponymref01_Decode _ _ hy1, rfl, ?_⟩
 ((conv=>whnf);repeat((first|apply TT mix|apply sE rfl|apply dG (by kernel_rfl)|fail);(conv=>whnf)))
 refine bnd h (fun x60 h60 h => ?_)
 refine cut_at (fun s2 : Bool => mkF 138 [(1, (.mp 0 0 0)), (35, (.bool s2))] [some ⟨2, 24, (.vals [(e_api_Family p_f)]), false, false⟩]) (fun s2 : Bool => m_eponymref19_Check_K3 p_f s2 = some r) ?_ ?_
 ·intro Kn60 hn60
  ((conv=>whnf);repeat((first|apply TT mix|apply sE rfl|apply dG (by kernel_rfl)|fail);(conv=>whnf)))
  refine br_b rfl h60 (fun c61 h60 => ?_) (fun c61 h60 => ?_)
  ·have e := Option.some.inj h60; subst e
   ((conv=>whnf);repeat((first|apply TT mix|apply sE rfl|apply dG (by kernel_rfl)|fail);(conv=>whnf)))
   exact hn60 _ true h (weak_gen [0] rfl rfl (sK rfl (rowLe_vals (valsLe.cons (cellsLe_refl rfl) valsLe.nil)) storeLe.nil) (sQ rfl rfl))
  ·((conv=>whnf);repeat((first|apply TT mix|apply sE rfl|apply dG (by kernel_rfl)|fail);(conv=>whnf)))
   refine br_b rfl h60 (fun c62 h60 => ?_) (fun c62 h60 => ?_)
   ·have e := Option.some.inj h60; subst e
    ((conv=>whnf);repeat((first|apply TT mix|apply sE rfl|apply dG (by kernel_rfl)|fail);(conv=>whnf)))
    exact hn60 _ true h (weak_gen [0] rfl rfl (sK rfl (rowLe_vals (valsLe.cons (cellsLe_refl rfl) valsLe.nil)) storeLe.nil) (sQ rfl rfl))
   ·have e := Option.some.inj h60; subst e
    ((conv=>whnf);repeat((first|apply TT mix|apply sE rfl|apply dG (by kernel_rfl)|fail);(conv=>whnf)))
    exact hn60 _ (y1.2.2 != (0 : Int)) h (weak_gen [0] rfl rfl (sK rfl (rowLe_vals (valsLe.cons (cellsLe_refl rfl) valsLe.nil)) storeLe.nil) (sQ rfl rfl))
 ·clear h h60
  intro s2 hc63
  ((conv=>whnf);repeat((first|apply TT mix|apply sE rfl|apply dG (by kernel_rfl)|fail);(conv=>whnf)))
  refine br_b rfl hc63 (fun c64 hc63 => ?_) (fun c64 hc63 => ?_)
  ·have e := Option.some.inj hc63; subst e
   ((conv=>whnf);repeat((first|apply TT mix|apply sE rfl|apply dG (by kernel_rfl)|fail);(conv=>whnf)))
   exact And.intro (AV.Le.refl _) rfl
  ·((conv=>whnf);repeat((first|apply TT mix|apply sE rfl|apply dG (by kernel_rfl)|fail);(conv=>whnf)))
   refine bnd hc63 (fun x65 h65 hc63 => ?_)
   refine cut_at (fun s4 : Int => mkF 138 [(1, (.mp 0 0 0)), (7, (.int .i64 s4))] [some ⟨2, 24, (.vals [(e_api_Family p_f)]), false, false⟩]) (fun s4 : Int => m_eponymref19_Check_K5 p_f s4 = some r) ?_ ?_
   ·intro Kn65 hn65
    ((conv=>whnf);repeat((first|apply TT mix|apply sE rfl|apply dG (by kernel_rfl)|fail);(conv=>whnf)))
    refine loop_iter (fun s56 : Int × Int => mkF 138 [(1, (.mp 0 0 0)), (7, (.int .i64 s56.1)), (8, (.int .i64 s56.2))] [some ⟨2, 24, (.vals [(e_api_Family p_f)]), false, false⟩]) h65 (weak_gen [0] rfl rfl (sK rfl (rowLe_vals (valsLe.cons (cellsLe_refl rfl) valsLe.nil)) storeLe.nil) (sQ rfl rfl)) ?_
    intro k58 s56 st58 Kn58 hn58 h58_ hs58
    ((conv=>whnf);repeat((first|apply TT mix|apply sE rfl|apply dG (by kernel_rfl)|fail);(conv=>whnf)))
    refine br_b rfl h58_ (fun c66 h58_ => ?_) (fun c66 h58_ => ?_)
    ·((conv=>whnf);repeat((first|apply TT mix|apply sE rfl|apply dG (by kernel_rfl)|fail);(conv=>whnf)))
     refine grd2 rfl rfl h58_ (fun h58_ => ?_)
     have e := Option.some.inj h58_; subst e
     ((conv=>whnf);repeat((first|apply TT mix|apply sE rfl|apply dG (by kernel_rfl)|fail);(conv=>whnf)))
     exact hn58 _ ((IntKind.wrap .i64 (s56.1 + (((p_f.f_Sets.getD (s56.2.toNat) []).length : Nat) : Int))), (IntKind.wrap .i64 (s56.2 + (1 : Int)))) hs58 (weak_gen [0] rfl rfl (sK rfl (rowLe_vals (valsLe.cons (cellsLe_refl rfl) valsLe.nil)) storeLe.nil) (sQ rfl rfl))
    ·have e := Option.some.inj h58_; subst e
     have e := done_out hs58; subst e
     ((conv=>whnf);repeat((first|apply TT mix|apply sE rfl|apply dG (by kernel_rfl)|fail);(conv=>whnf)))
     exact hn65 _ s56.1 hc63 (weak_gen [0] rfl rfl (sK rfl (rowLe_vals (valsLe.cons (cellsLe_refl rfl) valsLe.nil)) storeLe.nil) (sQ rfl rfl))
   ·clear hc63 h65
    intro s4 hc67
    ((conv=>whnf);repeat((first|apply TT mix|apply sE rfl|apply dG (by kernel_rfl)|fail);(conv=>whnf)))
    refine br_b rfl hc67 (fun c68 hc67 => ?_) (fun c68 hc67 => ?_)
    ·have e := Option.some.inj hc67; subst e
     ((conv=>whnf);repeat((first|apply TT mix|apply sE rfl|apply dG (by kernel_rfl)|fail);(conv=>whnf)))
     exact And.intro (AV.Le.refl _) rfl
    ·((conv=>whnf);repeat((first|apply TT mix|apply sE rfl|apply dG (by kernel_rfl)|fail);(conv=>whnf)))
     refine bnd hc67 (fun x69 h69 hc67 => ?_)
     refine cut_at (fun s6 : Unit => mkF 138 [] []) (fun s6 : Unit => some ((0 : Int), (0 : Int)) = some r) ?_ ?_
     ·intro Kn69 hn69
      ((conv=>whnf);repeat((first|apply TT mix|apply sE rfl|apply dG (by kernel_rfl)|fail);(conv=>whnf)))
      refine loop_iter (fun s9 : Int => mkF 138 [(1, (.mp 0 0 0)), (9, (.int .i64 s9))] [some ⟨2, 24, (.vals [(e_api_Family p_f)]), false, false⟩]) h69 (weak_gen [0] rfl rfl (sK rfl (rowLe_vals (valsLe.cons (cellsLe_refl rfl) valsLe.nil)) storeLe.nil) (sQ rfl rfl)) ?_
      intro k11 s9 st11 Kn11 hn11 h11_ hs11
      ((conv=>whnf);repeat((first|apply TT mix|apply sE rfl|apply dG (by kernel_rfl)|fail);(conv=>whnf)))
      refine br_b rfl h11_ (fun c70 h11_ => ?_) (fun c70 h11_ => ?_)
      ·((conv=>whnf);repeat((first|apply TT mix|apply sE rfl|apply dG (by kernel_rfl)|fail);(conv=>whnf)))
       refine bnd h11_ (fun x71 h71 h11_ => ?_)
       refine cut_at (fun s12 : Unit => mkF 138 [(1, (.mp 0 0 0)), (9, (.int .i64 s9))] [some ⟨2, 24, (.vals [(e_api_Family p_f)]), false, false⟩]) (fun s12 : Unit => some (.next (IntKind.wrap .i64 (s9 + (1 : Int)))) = some st11) ?_ ?_
       ·intro Kn71 hn71
        ((conv=>whnf);repeat((first|apply TT mix|apply sE rfl|apply dG (by kernel_rfl)|fail);(conv=>whnf)))
        refine grd2 rfl rfl h71 (fun h71 => ?_)
        ((conv=>whnf);repeat((first|apply TT mix|apply sE rfl|apply dG (by kernel_rfl)|fail);(conv=>whnf)))
        refine br_b rfl h71 (fun c72 h71 => ?_) (fun c72 h71 => ?_)
        ·have e := Option.some.inj h71; subst e
         have e := Option.some.inj h11_; subst e
         have e := done_out hs11; subst e
         have e := Option.some.inj hc67; subst e
         ((conv=>whnf);repeat((first|apply TT mix|apply sE rfl|apply dG (by kernel_rfl)|fail);(conv=>whnf)))
         exact And.intro (AV.Le.refl _) rfl
        ·((conv=>whnf);repeat((first|apply TT mix|apply sE rfl|apply dG (by kernel_rfl)|fail);(conv=>whnf)))
         refine bnd h71 (fun x73 h73 h71 => ?_)
         refine cut_at (fun s14 : Unit => mkF 138 [(1, (.mp 0 0 0)), (9, (.int .i64 s9)), (10, (e_L_i32 (p_f.f_Sets.getD (s9.toNat) [])))] [some ⟨2, 24, (.vals [(e_api_Family p_f)]), false, false⟩]) (fun s14 : Unit => m_eponymref19_Check_K15 p_f s9 s14 = some x71) ?_ ?_
         ·intro Kn73 hn73
          ((conv=>whnf);repeat((first|apply TT mix|apply sE rfl|apply dG (by kernel_rfl)|fail);(conv=>whnf)))
          refine loop_iter (fun s44 : Int => mkF 138 [(1, (.mp 0 0 0)), (9, (.int .i64 s9)), (10, (e_L_i32 (p_f.f_Sets.getD (s9.toNat) []))), (11, (.int .i64 s44))] [some ⟨2, 24, (.vals [(e_api_Family p_f)]), false, false⟩]) h73 (weak_gen [0] rfl rfl (sK rfl (rowLe_vals (valsLe.cons (cellsLe_refl rfl) valsLe.nil)) storeLe.nil) (sQ rfl rfl)) ?_
          intro k46 s44 st46 Kn46 hn46 h46_ hs46
          ((conv=>whnf);repeat((first|apply TT mix|apply sE rfl|apply dG (by kernel_rfl)|fail);(conv=>whnf)))
          refine br_b rfl h46_ (fun c74 h46_ => ?_) (fun c74 h46_ => ?_)
          ·((conv=>whnf);repeat((first|apply TT mix|apply sE rfl|apply dG (by kernel_rfl)|fail);(conv=>whnf)))
           refine grd2 rfl rfl h46_ (fun h46_ => ?_)
           ((conv=>whnf);repeat((first|apply TT mix|apply sE rfl|apply dG (by kernel_rfl)|fail);(conv=>whnf)))
           refine bnd h46_ (fun y47 hy47 h46_ => ?_)
           refine Or.inl ⟨_, c_eponymref01_Right _ _ hy47, rfl, ?_⟩
           ((conv=>whnf);repeat((first|apply TT mix|apply sE rfl|apply dG (by kernel_rfl)|fail);(conv=>whnf)))
           refine br_b rfl h46_ (fun c75 h46_ => ?_) (fun c75 h46_ => ?_)
           ·have e := Option.some.inj h46_; subst e
            have e := done_out hs46; subst e
            have e := Option.some.inj h71; subst e
            have e := Option.some.inj h11_; subst e
            have e := done_out hs11; subst e
            have e := Option.some.inj hc67; subst e
            ((conv=>whnf);repeat((first|apply TT mix|apply sE rfl|apply dG (by kernel_rfl)|fail);(conv=>whnf)))
            exact And.intro (AV.Le.refl _) rfl
           ·have e := Option.some.inj h46_; subst e
            ((conv=>whnf);repeat((first|apply TT mix|apply sE rfl|apply dG (by kernel_rfl)|fail);(conv=>whnf)))
            exact hn46 _ (IntKind.wrap .i64 (s44 + (1 : Int))) hs46 (weak_gen [0] rfl rfl (sK rfl (rowLe_vals (valsLe.cons (cellsLe_refl rfl) valsLe.nil)) storeLe.nil) (sQ rfl rfl))
          ·have e := Option.some.inj h46_; subst e
           have e := done_out hs46; subst e
           ((conv=>whnf);repeat((first|apply TT mix|apply sE rfl|apply dG (by kernel_rfl)|fail);(conv=>whnf)))
           exact hn73 _ () h71 (weak_gen [0] rfl rfl (sK rfl (rowLe_vals (valsLe.cons (cellsLe_refl rfl) valsLe.nil)) storeLe.nil) (sQ rfl rfl))
         ·clear h71 h73
          intro s14 hc76
          ((conv=>whnf);repeat((first|apply TT mix|apply sE rfl|apply dG (by kernel_rfl)|fail);(conv=>whnf)))
          refine bnd hc76 (fun x77 h77 hc76 => ?_)
          refine cut_at (fun s16 : Unit => mkF 138 [(1, (.mp 0 0 0)), (9, (.int .i64 s9)), (10, (e_L_i32 (p_f.f_Sets.getD (s9.toNat) [])))] [some ⟨2, 24, (.vals [(e_api_Family p_f)]), false, false⟩]) (fun s16 : Unit => m_eponymref19_Check_K17 p_f s9 s16 = some x71) ?_ ?_
          ·intro Kn77 hn77
           ((conv=>whnf);repeat((first|apply TT mix|apply sE rfl|apply dG (by kernel_rfl)|fail);(conv=>whnf)))
           refine loop_iter (fun s37 : Int => mkF 138 [(1, (.mp 0 0 0)), (9, (.int .i64 s9)), (10, (e_L_i32 (p_f.f_Sets.getD (s9.toNat) []))), (12, (.int .i64 s37))] [some ⟨2, 24, (.vals [(e_api_Family p_f)]), false, false⟩]) h77 (weak_gen [0] rfl rfl (sK rfl (rowLe_vals (valsLe.cons (cellsLe_refl rfl) valsLe.nil)) storeLe.nil) (sQ rfl rfl)) ?_
           intro k39 s37 st39 Kn39 hn39 h39_ hs39
           ((conv=>whnf);repeat((first|apply TT mix|apply sE rfl|apply dG (by kernel_rfl)|fail);(conv=>whnf)))
           refine br_b rfl h39_ (fun c78 h39_ => ?_) (fun c78 h39_ => ?_)
           ·((conv=>whnf);repeat((first|apply TT mix|apply sE rfl|apply dG (by kernel_rfl)|fail);(conv=>whnf)))
            refine grd2 rfl rfl h39_ (fun h39_ => ?_)
            ((conv=>whnf);repeat((first|apply TT mix|apply sE rfl|apply dG (by kernel_rfl)|fail);(conv=>whnf)))
            refine grd2 rfl rfl h39_ (fun h39_ => ?_)
            ((conv=>whnf);repeat((first|apply TT mix|apply sE rfl|apply dG (by kernel_rfl)|fail);(conv=>whnf)))
            refine br_b rfl h39_ (fun c79 h39_ => ?_) (fun c79 h39_ => ?_)
            ·have e := Option.some.inj h39_; subst e
             have e := done_out hs39; subst e
             have e := Option.some.inj hc76; subst e
             have e := Option.some.inj h11_; subst e
             have e := done_out hs11; subst e
             have e := Option.some.inj hc67; subst e
             ((conv=>whnf);repeat((first|apply TT mix|apply sE rfl|apply dG (by kernel_rfl)|fail);(conv=>whnf)))
             exact And.intro (AV.Le.refl _) rfl
            ·have e := Option.some.inj h39_; subst e
             ((conv=>whnf);repeat((first|apply TT mix|apply sE rfl|apply dG (by kernel_rfl)|fail);(conv=>whnf)))
             exact hn39 _ (IntKind.wrap .i64 (s37 + (1 : Int))) hs39 (weak_gen [0] rfl rfl (sK rfl (rowLe_vals (valsLe.cons (cellsLe_refl rfl) valsLe.nil)) storeLe.nil) (sQ rfl rfl))
           ·have e := Option.some.inj h39_; subst e
            have e := done_out hs39; subst e
            ((conv=>whnf);repeat((first|apply TT mix|apply sE rfl|apply dG (by kernel_rfl)|fail);(conv=>whnf)))
            exact hn77 _ () hc76 (weak_gen [0] rfl rfl (sK rfl (rowLe_vals (valsLe.cons (cellsLe_refl rfl) valsLe.nil)) storeLe.nil) (sQ rfl rfl))
          ·clear hc76 h77
           intro s16 hc80
           ((conv=>whnf);repeat((first|apply TT mix|apply sE rfl|apply dG (by kernel_rfl)|fail);(conv=>whnf)))
           refine bnd hc80 (fun x81 h81 hc80 => ?_)
           refine cut_at (fun s18 : Bool => mkF 138 [(1, (.mp 0 0 0)), (9, (.int .i64 s9)), (10, (e_L_i32 (p_f.f_Sets.getD (s9.toNat) []))), (114, (.bool s18))] [some ⟨2, 24, (.vals [(e_api_Family p_f)]), false, false⟩]) (fun s18 : Bool => m_eponymref19_Check_K19 p_f s9 s18 = some x71) ?_ ?_
           ·intro Kn81 hn81
            ((conv=>whnf);repeat((first|apply TT mix|apply sE rfl|apply dG (by kernel_rfl)|fail);(conv=>whnf)))
            refine br_b rfl h81 (fun c82 h81 => ?_) (fun c82 h81 => ?_)
            ·((conv=>whnf);repeat((first|apply TT mix|apply sE rfl|apply dG (by kernel_rfl)|fail);(conv=>whnf)))
             refine grd2 rfl rfl h81 (fun h81 => ?_)
             ((conv=>whnf);repeat((first|apply TT mix|apply sE rfl|apply dG (by kernel_rfl)|fail);(conv=>whnf)))
             refine grd2 rfl rfl h81 (fun h81 => ?_)
             ((conv=>whnf);repeat((first|apply TT mix|apply sE rfl|apply dG (by kernel_rfl)|fail);(conv=>whnf)))
             refine grd2 rfl rfl h81 (fun h81 => ?_)
             have e := Option.some.inj h81; subst e
             ((conv=>whnf);repeat((first|apply TT mix|apply sE rfl|apply dG (by kernel_rfl)|fail);(conv=>whnf)))
             exact hn81 _ (decide (((p_f.f_Sets.getD (s9.toNat) []).getD 0 0) ≤ ((p_f.f_Sets.getD ((IntKind.wrap .i64 (s9 - (1 : Int))).toNat) []).getD 0 0))) hc80 (weak_gen [0] rfl rfl (sK rfl (rowLe_vals (valsLe.cons (cellsLe_refl rfl) valsLe.nil)) storeLe.nil) (sQ rfl rfl))
            ·have e := Option.some.inj h81; subst e
             ((conv=>whnf);repeat((first|apply TT mix|apply sE rfl|apply dG (by kernel_rfl)|fail);(conv=>whnf)))
             exact hn81 _ false hc80 (weak_gen [0] rfl rfl (sK rfl (rowLe_vals (valsLe.cons (cellsLe_refl rfl) valsLe.nil)) storeLe.nil) (sQ rfl rfl))
           ·clear hc80 h81
            intro s18 hc83
            ((conv=>whnf);repeat((first|apply TT mix|apply sE rfl|apply dG (by kernel_rfl)|fail);(conv=>whnf)))
            refine br_b rfl hc83 (fun c84 hc83 => ?_) (fun c84 hc83 => ?_)
            ·have e := Option.some.inj hc83; subst e
             have e := Option.some.inj h11_; subst e
             have e := done_out hs11; subst e
             have e := Option.some.inj hc67; subst e
             ((conv=>whnf);repeat((first|apply TT mix|apply sE rfl|apply dG (by kernel_rfl)|fail);(conv=>whnf)))
             exact And.intro (AV.Le.refl _) rfl
            ·((conv=>whnf);repeat((first|apply TT mix|apply sE rfl|apply dG (by kernel_rfl)|fail);(conv=>whnf)))
             refine bnd hc83 (fun x23 hx23 hc83 => ?_)
             refine loop_iter (fun s21 : Int => mkF 138 [(1, (.mp 0 0 0)), (9, (.int .i64 s9)), (10, (e_L_i32 (p_f.f_Sets.getD (s9.toNat) []))), (13, (.int .i64 s21))] [some ⟨2, 24, (.vals [(e_api_Family p_f)]), false, false⟩]) hx23 (weak_gen [0] rfl rfl (sK rfl (rowLe_vals (valsLe.cons (cellsLe_refl rfl) valsLe.nil)) storeLe.nil) (sQ rfl rfl)) ?_
             intro k23 s21 st23 Kn23 hn23 h23 hs23
             ((conv=>whnf);repeat((first|apply TT mix|apply sE rfl|apply dG (by kernel_rfl)|fail);(conv=>whnf)))
             refine br_b rfl h23 (fun c85 h23 => ?_) (fun c85 h23 => ?_)
             ·((conv=>whnf);repeat((first|apply TT mix|apply sE rfl|apply dG (by kernel_rfl)|fail);(conv=>whnf)))
              refine bnd h23 (fun x86 h86 h23 => ?_)
              refine cut_at (fun s24 : Unit => mkF 138 [(1, (.mp 0 0 0)), (9, (.int .i64 s9)), (10, (e_L_i32 (p_f.f_Sets.getD (s9.toNat) []))), (13, (.int .i64 s21))] [some ⟨2, 24, (.vals [(e_api_Family p_f)]), false, false⟩]) (fun s24 : Unit => some (.next (IntKind.wrap .i64 (s21 + (1 : Int)))) = some st23) ?_ ?_
              ·intro Kn86 hn86
               ((conv=>whnf);repeat((first|apply TT mix|apply sE rfl|apply dG (by kernel_rfl)|fail);(conv=>whnf)))
               refine loop_iter (fun s27 : Int => mkF 138 [(1, (.mp 0 0 0)), (9, (.int .i64 s9)), (10, (e_L_i32 (p_f.f_Sets.getD (s9.toNat) []))), (13, (.int .i64 s21)), (14, (.int .i64 s27))] [some ⟨2, 24, (.vals [(e_api_Family p_f)]), false, false⟩]) h86 (weak_gen [0] rfl rfl (sK rfl (rowLe_vals (valsLe.cons (cellsLe_refl rfl) valsLe.nil)) storeLe.nil) (sQ rfl rfl)) ?_
               intro k29 s27 st29 Kn29 hn29 h29_ hs29
               ((conv=>whnf);repeat((first|apply TT mix|apply sE rfl|apply dG (by kernel_rfl)|fail);(conv=>whnf)))
               refine br_b rfl h29_ (fun c87 h29_ => ?_) (fun c87 h29_ => ?_)
               ·((conv=>whnf);repeat((first|apply TT mix|apply sE rfl|apply dG (by kernel_rfl)|fail);(conv=>whnf)))
                refine grd2 rfl rfl h29_ (fun h29_ => ?_)
                ((conv=>whnf);repeat((first|apply TT mix|apply sE rfl|apply dG (by kernel_rfl)|fail);(conv=>whnf)))
                refine grd2 rfl rfl h29_ (fun h29_ => ?_)
                ((conv=>whnf);repeat((first|apply TT mix|apply sE rfl|apply dG (by kernel_rfl)|fail);(conv=>whnf)))
                refine bnd h29_ (fun y30 hy30 h29_ => ?_)
                refine Or.inl ⟨_, c_eponymref19_in _ _ _ hy30, rfl, ?_⟩
                ((conv=>whnf);repeat((first|apply TT mix|apply sE rfl|apply dG (by kernel_rfl)|fail);(conv=>whnf)))
                refine br_b rfl h29_ (fun c88 h29_ => ?_) (fun c88 h29_ => ?_)
                ·have e := Option.some.inj h29_; subst e
                 have e := done_out hs29; subst e
                 have e := Option.some.inj h23; subst e
                 have e := done_out hs23; subst e
                 have e := Option.some.inj hc83; subst e
                 have e := Option.some.inj h11_; subst e
                 have e := done_out hs11; subst e
                 have e := Option.some.inj hc67; subst e
                 ((conv=>whnf);repeat((first|apply TT mix|apply sE rfl|apply dG (by kernel_rfl)|fail);(conv=>whnf)))
                 exact And.intro (AV.Le.refl _) rfl
                ·have e := Option.some.inj h29_; subst e
                 ((conv=>whnf);repeat((first|apply TT mix|apply sE rfl|apply dG (by kernel_rfl)|fail);(conv=>whnf)))
                 exact hn29 _ (IntKind.wrap .i64 (s27 + (1 : Int))) hs29 (weak_gen [0] rfl rfl (sK rfl (rowLe_vals (valsLe.cons (cellsLe_refl rfl) valsLe.nil)) storeLe.nil) (sQ rfl rfl))
               ·have e := Option.some.inj h29_; subst e
                have e := done_out hs29; subst e
                ((conv=>whnf);repeat((first|apply TT mix|apply sE rfl|apply dG (by kernel_rfl)|fail);(conv=>whnf)))
                exact hn86 _ () h23 (weak_gen [0] rfl rfl (sK rfl (rowLe_vals (valsLe.cons (cellsLe_refl rfl) valsLe.nil)) storeLe.nil) (sQ rfl rfl))
              ·clear h23 h86
               intro s24 hc89
               have e := Option.some.inj hc89; subst e
               ((conv=>whnf);repeat((first|apply TT mix|apply sE rfl|apply dG (by kernel_rfl)|fail);(conv=>whnf)))
               exact hn23 _ (IntKind.wrap .i64 (s21 + (1 : Int))) hs23 (weak_gen [0] rfl rfl (sK rfl (rowLe_vals (valsLe.cons (cellsLe_refl rfl) valsLe.nil)) storeLe.nil) (sQ rfl rfl))
             ·have e := Option.some.inj h23; subst e
              have e := done_out hs23; subst e
              have e := Option.some.inj hc83; subst e
              ((conv=>whnf);repeat((first|apply TT mix|apply sE rfl|apply dG (by kernel_rfl)|fail);(conv=>whnf)))
              exact hn71 _ () h11_ (weak_gen [0] rfl rfl (sK rfl (rowLe_vals (valsLe.cons (cellsLe_refl rfl) valsLe.nil)) storeLe.nil) (sQ rfl rfl))
       ·clear h11_ h71
        intro s12 hc90
        have e := Option.some.inj hc90; subst e
        ((conv=>whnf);repeat((first|apply TT mix|apply sE rfl|apply dG (by kernel_rfl)|fail);(conv=>whnf)))
        exact hn11 _ (IntKind.wrap .i64 (s9 + (1 : Int))) hs11 (weak_gen [0] rfl rfl (sK rfl (rowLe_vals (valsLe.cons (cellsLe_refl rfl) valsLe.nil)) storeLe.nil) (sQ rfl rfl))
      ·have e := Option.some.inj h11_; subst e
       have e := done_out hs11; subst e
       ((conv=>whnf);repeat((first|apply TT mix|apply sE rfl|apply dG (by kernel_rfl)|fail);(conv=>whnf)))
       exact hn69 _ () hc67 (weak_gen [] rfl rfl storeLe.nil slotsLe.nil)
     ·clear hc67 h69
      intro s6 hc91
      have e := Option.some.inj hc91; subst e
      ((conv=>whnf);repeat((first|apply TT mix|apply sE rfl|apply dG (by kernel_rfl)|fail);(conv=>whnf)))
      exact And.intro (AV.Le.refl _) rfl
theorem c_utf_fault (p_at : Int) (p_e : Er) (r : Er) (h : m_utf_fault p_at p_e = some r) : Contract pl 104 [(AV.int .i64 p_at), (AV.err p_e)] [] (AV.err r) [] := by
 refine contract_of .z Tryd.func104 rfl (by kernel_rfl) ?_
 have e := Option.some.inj h; subst e
 ((conv=>whnf);repeat((first|apply TT mix|apply sE rfl|apply dG (by kernel_rfl)|fail);(conv=>whnf)))
 exact And.intro (AV.Le.err_box (AV.Le.refl _)) rfl
theorem c_utf_first (p_b : Int) (r : Int × Int × Int × Int) (h : m_utf_first p_b = some r) : Contract pl 105 [(AV.int .u8 p_b)] [] (AV.tup [(AV.int .i64 r.1), (AV.int .i32 r.2.1), (AV.int .u8 r.2.2.1), (AV.int .u8 r.2.2.2)]) [] := by
 refine contract_of (.t false .z (.t false .z (.t true .z .z))) Tryd.func105 rfl (by kernel_rfl) ?_
 ((conv=>whnf);repeat((first|apply TT mix|apply sE rfl|apply dG (by kernel_rfl)|fail);(conv=>whnf)))
 refine bnd h (fun x4 h4 h => ?_)
 refine cut_at (fun s1 : Int => mkF 52 [(0, (.int .u8 p_b)), (2, (.int .i64 s1)), (4, (.int .u8 (128 : Int))), (5, (.int .u8 (191 : Int)))] []) (fun s1 : Int => m_utf_first_K2 p_b s1 = some r) ?_ ?_
 ·intro Kn4 hn4
  ((conv=>whnf);repeat((first|apply TT mix|apply sE rfl|apply dG (by kernel_rfl)|fail);(conv=>whnf)))
  refine br_b rfl h4 (fun c5 h4 => ?_) (fun c5 h4 => ?_)
  ·have e := Option.some.inj h4; subst e
   have e := Option.some.inj h; subst e
   ((conv=>whnf);repeat((first|apply TT mix|apply sE rfl|apply dG (by kernel_rfl)|fail);(conv=>whnf)))
   exact And.intro (AV.Le.refl _) rfl
  ·((conv=>whnf);repeat((first|apply TT mix|apply sE rfl|apply dG (by kernel_rfl)|fail);(conv=>whnf)))
   refine br_b rfl h4 (fun c6 h4 => ?_) (fun c6 h4 => ?_)
   ·have e := Option.some.inj h4; subst e
    ((conv=>whnf);repeat((first|apply TT mix|apply sE rfl|apply dG (by kernel_rfl)|fail);(conv=>whnf)))
    exact hn4 _ (IntKind.wrap .i64 ((IntKind.wrap .i64 ((IntKind.wrap .i64 ((0 : Int) + (1 : Int))) + (1 : Int))) + (1 : Int))) h (weak_gen [] rfl rfl storeLe.nil (sQ rfl rfl))
   ·((conv=>whnf);repeat((first|apply TT mix|apply sE rfl|apply dG (by kernel_rfl)|fail);(conv=>whnf)))
    refine br_b rfl h4 (fun c7 h4 => ?_) (fun c7 h4 => ?_)
    ·have e := Option.some.inj h4; subst e
     ((conv=>whnf);repeat((first|apply TT mix|apply sE rfl|apply dG (by kernel_rfl)|fail);(conv=>whnf)))
     exact hn4 _ (IntKind.wrap .i64 ((IntKind.wrap .i64 ((0 : Int) + (1 : Int))) + (1 : Int))) h (weak_gen [] rfl rfl storeLe.nil (sQ rfl rfl))
    ·((conv=>whnf);repeat((first|apply TT mix|apply sE rfl|apply dG (by kernel_rfl)|fail);(conv=>whnf)))
     refine br_b rfl h4 (fun c8 h4 => ?_) (fun c8 h4 => ?_)
     ·have e := Option.some.inj h4; subst e
      ((conv=>whnf);repeat((first|apply TT mix|apply sE rfl|apply dG (by kernel_rfl)|fail);(conv=>whnf)))
      exact hn4 _ (IntKind.wrap .i64 ((0 : Int) + (1 : Int))) h (weak_gen [] rfl rfl storeLe.nil (sQ rfl rfl))
     ·((conv=>whnf);repeat((first|apply TT mix|apply sE rfl|apply dG (by kernel_rfl)|fail);(conv=>whnf)))
      refine br_b rfl h4 (fun c9 h4 => ?_) (fun c9 h4 => ?_)
      ·have e := Option.some.inj h4; subst e
       have e := Option.some.inj h; subst e
       ((conv=>whnf);repeat((first|apply TT mix|apply sE rfl|apply dG (by kernel_rfl)|fail);(conv=>whnf)))
       exact And.intro (AV.Le.refl _) rfl
      ·have e := Option.some.inj h4; subst e
       have e := Option.some.inj h; subst e
       ((conv=>whnf);repeat((first|apply TT mix|apply sE rfl|apply dG (by kernel_rfl)|fail);(conv=>whnf)))
       exact And.intro (AV.Le.refl _) rfl
 ·clear h h4
  intro s1 hc10
  ((conv=>whnf);repeat((first|apply TT mix|apply sE rfl|apply dG (by kernel_rfl)|fail);(conv=>whnf)))
  refine br_b rfl hc10 (fun c11 hc10 => ?_) (fun c11 hc10 => ?_)
  ·((conv=>whnf);repeat((first|apply TT mix|apply sE rfl|apply dG (by kernel_rfl)|fail);(conv=>whnf)))
   refine grd1 rfl hc10 (fun hc10 => ?_)
   have e := Option.some.inj hc10; subst e
   ((conv=>whnf);repeat((first|apply TT mix|apply sE rfl|apply dG (by kernel_rfl)|fail);(conv=>whnf)))
   exact And.intro (AV.Le.refl _) rfl
  ·((conv=>whnf);repeat((first|apply TT mix|apply sE rfl|apply dG (by kernel_rfl)|fail);(conv=>whnf)))
   refine br_b rfl hc10 (fun c12 hc10 => ?_) (fun c12 hc10 => ?_)
   ·((conv=>whnf);repeat((first|apply TT mix|apply sE rfl|apply dG (by kernel_rfl)|fail);(conv=>whnf)))
    refine grd1 rfl hc10 (fun hc10 => ?_)
    have e := Option.some.inj hc10; subst e
    ((conv=>whnf);repeat((first|apply TT mix|apply sE rfl|apply dG (by kernel_rfl)|fail);(conv=>whnf)))
    exact And.intro (AV.Le.refl _) rfl
   ·((conv=>whnf);repeat((first|apply TT mix|apply sE rfl|apply dG (by kernel_rfl)|fail);(conv=>whnf)))
    refine br_b rfl hc10 (fun c13 hc10 => ?_) (fun c13 hc10 => ?_)
    ·((conv=>whnf);repeat((first|apply TT mix|apply sE rfl|apply dG (by kernel_rfl)|fail);(conv=>whnf)))
     refine grd1 rfl hc10 (fun hc10 => ?_)
     have e := Option.some.inj hc10; subst e
     ((conv=>whnf);repeat((first|apply TT mix|apply sE rfl|apply dG (by kernel_rfl)|fail);(conv=>whnf)))
     exact And.intro (AV.Le.refl _) rfl
    ·((conv=>whnf);repeat((first|apply TT mix|apply sE rfl|apply dG (by kernel_rfl)|fail);(conv=>whnf)))
     refine br_b rfl hc10 (fun c14 hc10 => ?_) (fun c14 hc10 => ?_)
     ·((conv=>whnf);repeat((first|apply TT mix|apply sE rfl|apply dG (by kernel_rfl)|fail);(conv=>whnf)))
      refine grd1 rfl hc10 (fun hc10 => ?_)
      have e := Option.some.inj hc10; subst e
      ((conv=>whnf);repeat((first|apply TT mix|apply sE rfl|apply dG (by kernel_rfl)|fail);(conv=>whnf)))
      exact And.intro (AV.Le.refl _) rfl
     ·((conv=>whnf);repeat((first|apply TT mix|apply sE rfl|apply dG (by kernel_rfl)|fail);(conv=>whnf)))
      refine grd1 rfl hc10 (fun hc10 => ?_)
      have e := Option.some.inj hc10; subst e
      ((conv=>whnf);repeat((first|apply TT mix|apply sE rfl|apply dG (by kernel_rfl)|fail);(conv=>whnf)))
      exact And.intro (AV.Le.refl _) rfl
theorem c_utf_Next (p_s : ByteArray) (p_at : Int) (r : Int × Int × Er) (h : m_utf_Next p_s p_at = some r) : Contract pl 80 [(AV.str p_s), (AV.int .i64 p_at)] [] (AV.tup [(AV.int .i32 r.1), (AV.int .i64 r.2.1), (AV.err r.2.2)]) [] := by
 refine contract_of (.t false .z (.t false (.t true .z .z) (.t false .z (.t false .z (.t true (.t false .z (.t false (.t false (.t false .z (.t false (.t false (.t false .z (.t false .z (.t false (.t true .z .z) .z))) .z) .z)) .z) .z)) .z))))) Tryd.func80 rfl (by kernel_rfl) ?_
 ((conv=>whnf);repeat((first|apply TT mix|apply sE rfl|apply dG (by kernel_rfl)|fail);(conv=>whnf)))
 refine bnd h (fun x19 h19 h => ?_)
 refine cut_at (fun s1 : Bool => mkF 76 [(0, (.str p_s)), (1, (.int .i64 p_at)), (19, (.bool s1))] []) (fun s1 : Bool => m_utf_Next_K2 p_s p_at s1 = some r) ?_ ?_
 ·intro Kn19 hn19
  ((conv=>whnf);repeat((first|apply TT mix|apply sE rfl|apply dG (by kernel_rfl)|fail);(conv=>whnf)))
  refine br_b rfl h19 (fun c20 h19 => ?_) (fun c20 h19 => ?_)
  ·have e := Option.some.inj h19; subst e
   ((conv=>whnf);repeat((first|apply TT mix|apply sE rfl|apply dG (by kernel_rfl)|fail);(conv=>whnf)))
   exact hn19 _ true h (weak_gen [] rfl rfl storeLe.nil (sQ rfl rfl))
  ·have e := Option.some.inj h19; subst e
   ((conv=>whnf);repeat((first|apply TT mix|apply sE rfl|apply dG (by kernel_rfl)|fail);(conv=>whnf)))
   exact hn19 _ (decide (p_at ≥ ((p_s.size : Nat) : Int))) h (weak_gen [] rfl rfl storeLe.nil (sQ rfl rfl))
 ·clear h h19
  intro s1 hc21
  ((conv=>whnf);repeat((first|apply TT mix|apply sE rfl|apply dG (by kernel_rfl)|fail);(conv=>whnf)))
  refine br_b rfl hc21 (fun c22 hc21 => ?_) (fun c22 hc21 => ?_)
  ·((conv=>whnf);repeat((first|apply TT mix|apply sE rfl|apply dG (by kernel_rfl)|fail);(conv=>whnf)))
   refine bnd hc21 (fun y3 hy3 hc21 => ?_)
   refine Or.inl ⟨_, c_utf_fault _ _ _ hy3, rfl, ?_⟩
   have e := Option.some.inj hc21; subst e
   ((conv=>whnf);repeat((first|apply TT mix|apply sE rfl|apply dG (by kernel_rfl)|fail);(conv=>whnf)))
   exact And.intro (AV.Le.refl _) rfl
  ·((conv=>whnf);repeat((first|apply TT mix|apply sE rfl|apply dG (by kernel_rfl)|fail);(conv=>whnf)))
   refine grd2 rfl rfl hc21 (fun hc21 => ?_)
   ((conv=>whnf);repeat((first|apply TT mix|apply sE rfl|apply dG (by kernel_rfl)|fail);(conv=>whnf)))
   refine bnd hc21 (fun y4 hy4 hc21 => ?_)
   refine Or.inl ⟨_, c_utf_first _ _ hy4, rfl, ?_⟩
   ((conv=>whnf);repeat((first|apply TT mix|apply sE rfl|apply dG (by kernel_rfl)|fail);(conv=>whnf)))
   refine br_b rfl hc21 (fun c23 hc21 => ?_) (fun c23 hc21 => ?_)
   ·((conv=>whnf);repeat((first|apply TT mix|apply sE rfl|apply dG (by kernel_rfl)|fail);(conv=>whnf)))
    refine bnd hc21 (fun y5 hy5 hc21 => ?_)
    refine Or.inl ⟨_, c_utf_fault _ _ _ hy5, rfl, ?_⟩
    have e := Option.some.inj hc21; subst e
    ((conv=>whnf);repeat((first|apply TT mix|apply sE rfl|apply dG (by kernel_rfl)|fail);(conv=>whnf)))
    exact And.intro (AV.Le.refl _) rfl
   ·((conv=>whnf);repeat((first|apply TT mix|apply sE rfl|apply dG (by kernel_rfl)|fail);(conv=>whnf)))
    refine bnd hc21 (fun x24 h24 hc21 => ?_)
    refine cut_at (fun s6 : Int => mkF 76 [(4, (.int .i32 s6)), (7, (.int .i64 y4.1))] []) (fun s6 : Int => some (s6, (IntKind.wrap .i64 (y4.1 + (1 : Int))), Er.nil) = some r) ?_ ?_
    ·intro Kn24 hn24
     ((conv=>whnf);repeat((first|apply TT mix|apply sE rfl|apply dG (by kernel_rfl)|fail);(conv=>whnf)))
     refine loop_iter (fun s9 : Int × Int × Int × Int => mkF 76 [(0, (.str p_s)), (1, (.int .i64 p_at)), (4, (.int .i32 s9.1)), (7, (.int .i64 y4.1)), (8, (.int .u8 s9.2.1)), (9, (.int .u8 s9.2.2.1)), (10, (.int .i64 s9.2.2.2))] []) h24 (weak_gen [] rfl rfl storeLe.nil (sQ rfl rfl)) ?_
     intro k11 s9 st11 Kn11 hn11 h11_ hs11
     ((conv=>whnf);repeat((first|apply TT mix|apply sE rfl|apply dG (by kernel_rfl)|fail);(conv=>whnf)))
     refine br_b rfl h11_ (fun c25 h11_ => ?_) (fun c25 h11_ => ?_)
     ·((conv=>whnf);repeat((first|apply TT mix|apply sE rfl|apply dG (by kernel_rfl)|fail);(conv=>whnf)))
      refine br_b rfl h11_ (fun c26 h11_ => ?_) (fun c26 h11_ => ?_)
      ·((conv=>whnf);repeat((first|apply TT mix|apply sE rfl|apply dG (by kernel_rfl)|fail);(conv=>whnf)))
       refine bnd h11_ (fun y12 hy12 h11_ => ?_)
       refine Or.inl ⟨_, c_utf_fault _ _ _ hy12, rfl, ?_⟩
       have e := Option.some.inj h11_; subst e
       have e := done_out hs11; subst e
       have e := Option.some.inj hc21; subst e
       ((conv=>whnf);repeat((first|apply TT mix|apply sE rfl|apply dG (by kernel_rfl)|fail);(conv=>whnf)))
       exact And.intro (AV.Le.refl _) rfl
      ·((conv=>whnf);repeat((first|apply TT mix|apply sE rfl|apply dG (by kernel_rfl)|fail);(conv=>whnf)))
       refine grd2 rfl rfl h11_ (fun h11_ => ?_)
       ((conv=>whnf);repeat((first|apply TT mix|apply sE rfl|apply dG (by kernel_rfl)|fail);(conv=>whnf)))
       refine bnd h11_ (fun x27 h27 h11_ => ?_)
       refine cut_at (fun s13 : Bool => mkF 76 [(0, (.str p_s)), (1, (.int .i64 p_at)), (4, (.int .i32 s9.1)), (7, (.int .i64 y4.1)), (10, (.int .i64 s9.2.2.2)), (11, (.int .u8 (bt p_s (IntKind.wrap .i64 (p_at + s9.2.2.2))))), (63, (.bool s13))] []) (fun s13 : Bool => m_utf_Next_K14 p_s p_at s9 s13 = some st11) ?_ ?_
       ·intro Kn27 hn27
        ((conv=>whnf);repeat((first|apply TT mix|apply sE rfl|apply dG (by kernel_rfl)|fail);(conv=>whnf)))
        refine br_b rfl h27 (fun c28 h27 => ?_) (fun c28 h27 => ?_)
        ·have e := Option.some.inj h27; subst e
         ((conv=>whnf);repeat((first|apply TT mix|apply sE rfl|apply dG (by kernel_rfl)|fail);(conv=>whnf)))
         exact hn27 _ true h11_ (weak_gen [] rfl rfl storeLe.nil (sQ rfl rfl))
        ·have e := Option.some.inj h27; subst e
         ((conv=>whnf);repeat((first|apply TT mix|apply sE rfl|apply dG (by kernel_rfl)|fail);(conv=>whnf)))
         exact hn27 _ (decide ((bt p_s (IntKind.wrap .i64 (p_at + s9.2.2.2))) > s9.2.2.1)) h11_ (weak_gen [] rfl rfl storeLe.nil (sQ rfl rfl))
       ·clear h11_ h27
        intro s13 hc29
        ((conv=>whnf);repeat((first|apply TT mix|apply sE rfl|apply dG (by kernel_rfl)|fail);(conv=>whnf)))
        refine br_b rfl hc29 (fun c30 hc29 => ?_) (fun c30 hc29 => ?_)
        ·((conv=>whnf);repeat((first|apply TT mix|apply sE rfl|apply dG (by kernel_rfl)|fail);(conv=>whnf)))
         refine bnd hc29 (fun y15 hy15 hc29 => ?_)
         refine Or.inl ⟨_, c_utf_fault _ _ _ hy15, rfl, ?_⟩
         have e := Option.some.inj hc29; subst e
         have e := done_out hs11; subst e
         have e := Option.some.inj hc21; subst e
         ((conv=>whnf);repeat((first|apply TT mix|apply sE rfl|apply dG (by kernel_rfl)|fail);(conv=>whnf)))
         exact And.intro (AV.Le.refl _) rfl
        ·((conv=>whnf);repeat((first|apply TT mix|apply sE rfl|apply dG (by kernel_rfl)|fail);(conv=>whnf)))
         refine And.intro (by decide) ?_
         have e := Option.some.inj hc29; subst e
         ((conv=>whnf);repeat((first|apply TT mix|apply sE rfl|apply dG (by kernel_rfl)|fail);(conv=>whnf)))
         exact hn11 _ ((ior .i32 (IntKind.wrap .i32 (s9.1 * 64)) (IntKind.wrap .i32 (iand .u8 (bt p_s (IntKind.wrap .i64 (p_at + s9.2.2.2))) (63 : Int)))), (128 : Int), (191 : Int), (IntKind.wrap .i64 (s9.2.2.2 + (1 : Int)))) hs11 (weak_gen [] rfl rfl storeLe.nil (sQ rfl rfl))
     ·have e := Option.some.inj h11_; subst e
      have e := done_out hs11; subst e
      ((conv=>whnf);repeat((first|apply TT mix|apply sE rfl|apply dG (by kernel_rfl)|fail);(conv=>whnf)))
      exact hn24 _ s9.1 hc21 (weak_gen [] rfl rfl storeLe.nil (sQ rfl rfl))
    ·clear hc21 h24
     intro s6 hc31
     have e := Option.some.inj hc31; subst e
     ((conv=>whnf);repeat((first|apply TT mix|apply sE rfl|apply dG (by kernel_rfl)|fail);(conv=>whnf)))
     exact And.intro (AV.Le.tup (argsLe.cons (AV.Le.refl _) (argsLe.cons (AV.Le.refl _) (argsLe.cons (AV.Le.err_nil) argsLe.nil)))) rfl
theorem c_utf_Decode (p_s : ByteArray) (r : (List Int) × Er) (h : m_utf_Decode p_s = some r) : Contract pl 59 [(AV.str p_s)] [] (AV.tup [(e_L_i32 r.1), (AV.err r.2)]) [] := by
 refine contract_of (.t false .z (.t false .z (.t true .z .z))) Tryd.func59 rfl (by kernel_rfl) ?_
 ((conv=>whnf);repeat((first|apply TT mix|apply sE rfl|apply dG (by kernel_rfl)|fail);(conv=>whnf)))
 refine bnd h (fun x11 h11 h => ?_)
 refine cut_at (fun s1 : (List Int) => mkF 31 [(4, (.ms 0 s1.length))] [some ⟨1, 21, (.ints .i32 s1), false, true⟩]) (fun s1 : (List Int) => some (s1, Er.nil) = some r) ?_ ?_
 ·intro Kn11 hn11
  ((conv=>whnf);repeat((first|apply TT mix|apply sE rfl|apply dG (by kernel_rfl)|fail);(conv=>whnf)))
  refine loop_iter (fun s4 : (List Int) × Int => mkF 31 [(0, (.str p_s)), (4, (.ms 0 s4.1.length)), (5, (.int .i64 s4.2))] [some ⟨1, 21, (.ints .i32 s4.1), false, true⟩]) h11 (weak_trans (weak_nil 4 1 21 (.ints .i32 []) _ rfl rfl trivial (Nat.zero_le _)) (weak_gen [0] rfl rfl (sK rfl (rowLe_ints (by first | rfl | simp)) storeLe.nil) (sQ rfl rfl))) ?_
  intro k6 s4 st6 Kn6 hn6 h6_ hs6
  ((conv=>whnf);repeat((first|apply TT mix|apply sE rfl|apply dG (by kernel_rfl)|fail);(conv=>whnf)))
  refine br_b rfl h6_ (fun c12 h6_ => ?_) (fun c12 h6_ => ?_)
  ·((conv=>whnf);repeat((first|apply TT mix|apply sE rfl|apply dG (by kernel_rfl)|fail);(conv=>whnf)))
   refine bnd h6_ (fun y7 hy7 h6_ => ?_)
   refine Or.inl ⟨_, c_utf_Next _ _ _ hy7, rfl, ?_⟩
   ((conv=>whnf);repeat((first|apply TT mix|apply sE rfl|apply dG (by kernel_rfl)|fail);(conv=>whnf)))
   refine br_b rfl h6_ (fun c13 h6_ => ?_) (fun c13 h6_ => ?_)
   ·have e := Option.some.inj h6_; subst e
    have e := done_out hs6; subst e
    have e := Option.some.inj h; subst e
    ((conv=>whnf);repeat((first|apply TT mix|apply sE rfl|apply dG (by kernel_rfl)|fail);(conv=>whnf)))
    exact And.intro (AV.Le.tup (argsLe.cons (AV.Le.list rfl (fun j hj => absurd hj (Nat.not_lt_zero _))) (argsLe.cons (AV.Le.refl _) argsLe.nil))) rfl
   ·((conv=>whnf);repeat((first|apply TT mix|apply sE rfl|apply dG (by kernel_rfl)|fail);(conv=>whnf)))
    obtain ⟨p14, h6_⟩ := grdO h6_
    refine ⟨[], 1, (.ints .i32 [y7.1]), ⟨by simp [Row.len] <;> omega, rfl, _, rfl, by simp [Row.len] <;> omega, fun j hj => .inl rfl⟩, trivial, fun j hj => rfl, ?_⟩
    conv => whnf
    refine ⟨by simp [Row.len]; try omega, p14, by omega, ?_⟩
    have e := Option.some.inj h6_; subst e
    ((conv=>whnf);repeat((first|apply TT mix|apply sE rfl|apply dG (by kernel_rfl)|fail);(conv=>whnf)))
    exact hn6 _ ((s4.1 ++ [y7.1]), (IntKind.wrap .i64 (s4.2 + y7.2.1))) hs6 (weak_gen [2] rfl rfl (sK rfl (rowLe_ints (by first | rfl | simp)) storeLe.nil) (slotsLe.cons (cR rfl rfl) (slotsLe.cons (And.intro rfl (AV.Le.of_eq (congrArg (AV.ms _) (by first | rfl | omega | (simp; omega) | simp)))) (slotsLe.cons (cR rfl rfl) slotsLe.nil))))
  ·have e := Option.some.inj h6_; subst e
   have e := done_out hs6; subst e
   ((conv=>whnf);repeat((first|apply TT mix|apply sE rfl|apply dG (by kernel_rfl)|fail);(conv=>whnf)))
   exact hn11 _ s4.1 h (weak_gen [0] rfl rfl (sK rfl (rowLe_ints (by first | rfl | simp)) storeLe.nil) (slotsLe.cons (And.intro rfl (AV.Le.of_eq (congrArg (AV.ms _) (by first | rfl | omega | (simp; omega) | simp)))) slotsLe.nil))
 ·clear h h11
  intro s1 hc15
  have e := Option.some.inj hc15; subst e
  ((conv=>whnf);repeat((first|apply TT mix|apply sE rfl|apply dG (by kernel_rfl)|fail);(conv=>whnf)))
  exact And.intro (AV.Le.tup (argsLe.cons (AV.Le.refl _) (argsLe.cons (AV.Le.err_nil) argsLe.nil))) rfl
theorem c_utf_Valid (p_s : ByteArray) (r : Bool) (h : m_utf_Valid p_s = some r) : Contract pl 30 [(AV.str p_s)] [] (AV.bool r) [] := by
 refine contract_of .z Tryd.func30 rfl (by kernel_rfl) ?_
 ((conv=>whnf);repeat((first|apply TT mix|apply sE rfl|apply dG (by kernel_rfl)|fail);(conv=>whnf)))
 refine bnd h (fun y1 hy1 h => ?_)
 refine Or.inl ⟨_, c_utf_Decode _ _ hy1, rfl, ?_⟩
 ((conv=>whnf);repeat((first|apply TT mix|apply sE rfl|apply dG (by kernel_rfl)|fail);(conv=>whnf)))
 refine br_e h (fun hx h => ?_) (fun hx h => ?_)
 ·refine Or.inr (own_intro (own_call [0] (c_errors_As_nil _ hx) rfl (storeLe.cons rfl (objLe.mk (by intro hf; first | exact hf | rfl) (by intro hf; first | exact hf | rfl) (rowLe_vals (valsLe.cons (cellsLe_refl rfl) valsLe.nil))) storeLe.nil) (cellsLe.cons (And.intro rfl (AV.Le.refl _)) (cellsLe.cons (And.intro rfl (AV.Le.refl _)) cellsLe.nil)) rfl) ?_)
  have e := Option.some.inj h; subst e
  ((conv=>whnf);repeat((first|apply TT mix|apply sE rfl|apply dG (by kernel_rfl)|fail);(conv=>whnf)))
  exact And.intro (AV.Le.refl _) rfl
 ·((conv=>whnf);repeat((first|apply TT mix|apply sE rfl|apply dG (by kernel_rfl)|fail);(conv=>whnf)))
  refine bnd h (fun y2 hy2 h => ?_)
  refine Or.inr (own_intro (own_call [0] (c_errors_As _ _ hy2) rfl (storeLe.cons rfl (objLe.mk (by intro hf; first | exact hf | rfl) (by intro hf; first | exact hf | rfl) (rowLe_vals (valsLe.cons (cellsLe_refl rfl) valsLe.nil))) storeLe.nil) (cellsLe.cons (And.intro rfl (AV.Le.refl _)) (cellsLe.cons (And.intro rfl (AV.Le.refl _)) cellsLe.nil)) rfl) ?_)
  have e := Option.some.inj h; subst e
  ((conv=>whnf);repeat((first|apply TT mix|apply sE rfl|apply dG (by kernel_rfl)|fail);(conv=>whnf)))
  exact And.intro (AV.Le.refl _) rfl
theorem c_variants_fault (p_at : Int) (p_e : Er) (r : Er) (h : m_variants_fault p_at p_e = some r) : Contract pl 31 [(AV.int .i64 p_at), (AV.err p_e)] [] (AV.err r) [] := by
 refine contract_of .z Tryd.func31 rfl (by kernel_rfl) ?_
 have e := Option.some.inj h; subst e
 ((conv=>whnf);repeat((first|apply TT mix|apply sE rfl|apply dG (by kernel_rfl)|fail);(conv=>whnf)))
 exact And.intro (AV.Le.err_box (AV.Le.refl _)) rfl
theorem c_utf_Right (p_r : Int) (r : Bool) (h : m_utf_Right p_r = some r) : Contract pl 42 [(AV.int .i32 p_r)] [] (AV.bool r) [] := by
 refine contract_of .z Tryd.func42 rfl (by kernel_rfl) ?_
 ((conv=>whnf);repeat((first|apply TT mix|apply sE rfl|apply dG (by kernel_rfl)|fail);(conv=>whnf)))
 refine br_b rfl h (fun c1 h => ?_) (fun c1 h => ?_)
 ·((conv=>whnf);repeat((first|apply TT mix|apply sE rfl|apply dG (by kernel_rfl)|fail);(conv=>whnf)))
  refine br_b rfl h (fun c2 h => ?_) (fun c2 h => ?_)
  ·((conv=>whnf);repeat((first|apply TT mix|apply sE rfl|apply dG (by kernel_rfl)|fail);(conv=>whnf)))
   refine br_b rfl h (fun c3 h => ?_) (fun c3 h => ?_)
   ·have e := Option.some.inj h; subst e
    ((conv=>whnf);repeat((first|apply TT mix|apply sE rfl|apply dG (by kernel_rfl)|fail);(conv=>whnf)))
    exact And.intro (AV.Le.refl _) rfl
   ·have e := Option.some.inj h; subst e
    ((conv=>whnf);repeat((first|apply TT mix|apply sE rfl|apply dG (by kernel_rfl)|fail);(conv=>whnf)))
    exact And.intro (AV.Le.refl _) rfl
  ·have e := Option.some.inj h; subst e
   ((conv=>whnf);repeat((first|apply TT mix|apply sE rfl|apply dG (by kernel_rfl)|fail);(conv=>whnf)))
   exact And.intro (AV.Le.refl _) rfl
 ·have e := Option.some.inj h; subst e
  ((conv=>whnf);repeat((first|apply TT mix|apply sE rfl|apply dG (by kernel_rfl)|fail);(conv=>whnf)))
  exact And.intro (AV.Le.refl _) rfl
theorem c_variants_setError (p_f : T_api_Family) (p_i : Int) (r : Er) (h : m_variants_setError p_f p_i = some r) : Contract pl 32 [(e_api_Family p_f), (AV.int .i64 p_i)] [] (AV.err r) [] := by
 refine contract_of (.t false .z (.t false .z (.t false .z (.t true .z (.t true .z (.t false (.t true .z .z) .z)))))) Tryd.func32 rfl (by kernel_rfl) ?_
 ((conv=>whnf);repeat((first|apply TT mix|apply sE rfl|apply dG (by kernel_rfl)|fail);(conv=>whnf)))
 refine grd2 rfl rfl h (fun h => ?_)
 ((conv=>whnf);repeat((first|apply TT mix|apply sE rfl|apply dG (by kernel_rfl)|fail);(conv=>whnf)))
 refine br_b rfl h (fun c22 h => ?_) (fun c22 h => ?_)
 ·have e := Option.some.inj h; subst e
  ((conv=>whnf);repeat((first|apply TT mix|apply sE rfl|apply dG (by kernel_rfl)|fail);(conv=>whnf)))
  exact And.intro (AV.Le.refl _) rfl
 ·((conv=>whnf);repeat((first|apply TT mix|apply sE rfl|apply dG (by kernel_rfl)|fail);(conv=>whnf)))
  refine bnd h (fun x23 h23 h => ?_)
  refine cut_at (fun s1 : Unit => mkF 63 [(1, (.int .i64 p_i)), (2, (.mp 0 0 0)), (5, (e_L_i32 (p_f.f_Sets.getD (p_i.toNat) [])))] [some ⟨2, 24, (.vals [(e_api_Family p_f)]), false, false⟩]) (fun s1 : Unit => m_variants_setError_K2 p_f p_i s1 = some r) ?_ ?_
  ·intro Kn23 hn23
   ((conv=>whnf);repeat((first|apply TT mix|apply sE rfl|apply dG (by kernel_rfl)|fail);(conv=>whnf)))
   refine loop_iter (fun s15 : Int => mkF 63 [(1, (.int .i64 p_i)), (2, (.mp 0 0 0)), (5, (e_L_i32 (p_f.f_Sets.getD (p_i.toNat) []))), (18, (e_L_i32 (p_f.f_Sets.getD (p_i.toNat) []))), (19, (.int .i64 (((p_f.f_Sets.getD (p_i.toNat) []).length : Nat) : Int))), (20, (.int .i64 s15))] [some ⟨2, 24, (.vals [(e_api_Family p_f)]), false, false⟩]) h23 (weak_gen [0] rfl rfl (sK rfl (rowLe_vals (valsLe.cons (cellsLe_refl rfl) valsLe.nil)) storeLe.nil) (sQ rfl rfl)) ?_
   intro k17 s15 st17 Kn17 hn17 h17_ hs17
   ((conv=>whnf);repeat((first|apply TT mix|apply sE rfl|apply dG (by kernel_rfl)|fail);(conv=>whnf)))
   refine br_b rfl h17_ (fun c24 h17_ => ?_) (fun c24 h17_ => ?_)
   ·((conv=>whnf);repeat((first|apply TT mix|apply sE rfl|apply dG (by kernel_rfl)|fail);(conv=>whnf)))
    refine grd2 rfl rfl h17_ (fun h17_ => ?_)
    ((conv=>whnf);repeat((first|apply TT mix|apply sE rfl|apply dG (by kernel_rfl)|fail);(conv=>whnf)))
    refine bnd h17_ (fun y18 hy18 h17_ => ?_)
    refine Or.inl ⟨_, c_utf_Right _ _ hy18, rfl, ?_⟩
    ((conv=>whnf);repeat((first|apply TT mix|apply sE rfl|apply dG (by kernel_rfl)|fail);(conv=>whnf)))
    refine br_b rfl h17_ (fun c25 h17_ => ?_) (fun c25 h17_ => ?_)
    ·have e := Option.some.inj h17_; subst e
     have e := done_out hs17; subst e
     have e := Option.some.inj h; subst e
     ((conv=>whnf);repeat((first|apply TT mix|apply sE rfl|apply dG (by kernel_rfl)|fail);(conv=>whnf)))
     exact And.intro (AV.Le.refl _) rfl
    ·have e := Option.some.inj h17_; subst e
     ((conv=>whnf);repeat((first|apply TT mix|apply sE rfl|apply dG (by kernel_rfl)|fail);(conv=>whnf)))
     exact hn17 _ (IntKind.wrap .i64 (s15 + (1 : Int))) hs17 (weak_gen [0] rfl rfl (sK rfl (rowLe_vals (valsLe.cons (cellsLe_refl rfl) valsLe.nil)) storeLe.nil) (sQ rfl rfl))
   ·have e := Option.some.inj h17_; subst e
    have e := done_out hs17; subst e
    ((conv=>whnf);repeat((first|apply TT mix|apply sE rfl|apply dG (by kernel_rfl)|fail);(conv=>whnf)))
    exact hn23 _ () h (weak_gen [0] rfl rfl (sK rfl (rowLe_vals (valsLe.cons (cellsLe_refl rfl) valsLe.nil)) storeLe.nil) (sQ rfl rfl))
  ·clear h h23
   intro s1 hc26
   ((conv=>whnf);repeat((first|apply TT mix|apply sE rfl|apply dG (by kernel_rfl)|fail);(conv=>whnf)))
   refine bnd hc26 (fun x27 h27 hc26 => ?_)
   refine cut_at (fun s3 : Unit => mkF 63 [(1, (.int .i64 p_i)), (2, (.mp 0 0 0)), (5, (e_L_i32 (p_f.f_Sets.getD (p_i.toNat) [])))] [some ⟨2, 24, (.vals [(e_api_Family p_f)]), false, false⟩]) (fun s3 : Unit => m_variants_setError_K4 p_f p_i s3 = some r) ?_ ?_
   ·intro Kn27 hn27
    ((conv=>whnf);repeat((first|apply TT mix|apply sE rfl|apply dG (by kernel_rfl)|fail);(conv=>whnf)))
    refine loop_iter (fun s8 : Int => mkF 63 [(1, (.int .i64 p_i)), (2, (.mp 0 0 0)), (5, (e_L_i32 (p_f.f_Sets.getD (p_i.toNat) []))), (8, (.int .i64 s8))] [some ⟨2, 24, (.vals [(e_api_Family p_f)]), false, false⟩]) h27 (weak_gen [0] rfl rfl (sK rfl (rowLe_vals (valsLe.cons (cellsLe_refl rfl) valsLe.nil)) storeLe.nil) (sQ rfl rfl)) ?_
    intro k10 s8 st10 Kn10 hn10 h10_ hs10
    ((conv=>whnf);repeat((first|apply TT mix|apply sE rfl|apply dG (by kernel_rfl)|fail);(conv=>whnf)))
    refine br_b rfl h10_ (fun c28 h10_ => ?_) (fun c28 h10_ => ?_)
    ·((conv=>whnf);repeat((first|apply TT mix|apply sE rfl|apply dG (by kernel_rfl)|fail);(conv=>whnf)))
     refine grd2 rfl rfl h10_ (fun h10_ => ?_)
     ((conv=>whnf);repeat((first|apply TT mix|apply sE rfl|apply dG (by kernel_rfl)|fail);(conv=>whnf)))
     refine grd2 rfl rfl h10_ (fun h10_ => ?_)
     ((conv=>whnf);repeat((first|apply TT mix|apply sE rfl|apply dG (by kernel_rfl)|fail);(conv=>whnf)))
     refine br_b rfl h10_ (fun c29 h10_ => ?_) (fun c29 h10_ => ?_)
     ·have e := Option.some.inj h10_; subst e
      have e := done_out hs10; subst e
      have e := Option.some.inj hc26; subst e
      ((conv=>whnf);repeat((first|apply TT mix|apply sE rfl|apply dG (by kernel_rfl)|fail);(conv=>whnf)))
      exact And.intro (AV.Le.refl _) rfl
     ·have e := Option.some.inj h10_; subst e
      ((conv=>whnf);repeat((first|apply TT mix|apply sE rfl|apply dG (by kernel_rfl)|fail);(conv=>whnf)))
      exact hn10 _ (IntKind.wrap .i64 (s8 + (1 : Int))) hs10 (weak_gen [0] rfl rfl (sK rfl (rowLe_vals (valsLe.cons (cellsLe_refl rfl) valsLe.nil)) storeLe.nil) (sQ rfl rfl))
    ·have e := Option.some.inj h10_; subst e
     have e := done_out hs10; subst e
     ((conv=>whnf);repeat((first|apply TT mix|apply sE rfl|apply dG (by kernel_rfl)|fail);(conv=>whnf)))
     exact hn27 _ () hc26 (weak_gen [0] rfl rfl (sK rfl (rowLe_vals (valsLe.cons (cellsLe_refl rfl) valsLe.nil)) storeLe.nil) (sQ rfl rfl))
   ·clear hc26 h27
    intro s3 hc30
    ((conv=>whnf);repeat((first|apply TT mix|apply sE rfl|apply dG (by kernel_rfl)|fail);(conv=>whnf)))
    refine bnd hc30 (fun x31 h31 hc30 => ?_)
    refine cut_at (fun s5 : Bool => mkF 63 [(61, (.bool s5))] []) (fun s5 : Bool => m_variants_setError_K6 s5 = some r) ?_ ?_
    ·intro Kn31 hn31
     ((conv=>whnf);repeat((first|apply TT mix|apply sE rfl|apply dG (by kernel_rfl)|fail);(conv=>whnf)))
     refine br_b rfl h31 (fun c32 h31 => ?_) (fun c32 h31 => ?_)
     ·((conv=>whnf);repeat((first|apply TT mix|apply sE rfl|apply dG (by kernel_rfl)|fail);(conv=>whnf)))
      refine grd2 rfl rfl h31 (fun h31 => ?_)
      ((conv=>whnf);repeat((first|apply TT mix|apply sE rfl|apply dG (by kernel_rfl)|fail);(conv=>whnf)))
      refine grd2 rfl rfl h31 (fun h31 => ?_)
      ((conv=>whnf);repeat((first|apply TT mix|apply sE rfl|apply dG (by kernel_rfl)|fail);(conv=>whnf)))
      refine grd2 rfl rfl h31 (fun h31 => ?_)
      have e := Option.some.inj h31; subst e
      ((conv=>whnf);repeat((first|apply TT mix|apply sE rfl|apply dG (by kernel_rfl)|fail);(conv=>whnf)))
      exact hn31 _ (decide (((p_f.f_Sets.getD (p_i.toNat) []).getD 0 0) ≤ ((p_f.f_Sets.getD ((IntKind.wrap .i64 (p_i - (1 : Int))).toNat) []).getD 0 0))) hc30 (weak_gen [] rfl rfl storeLe.nil (slotsLe.cons (cR rfl rfl) slotsLe.nil))
     ·have e := Option.some.inj h31; subst e
      ((conv=>whnf);repeat((first|apply TT mix|apply sE rfl|apply dG (by kernel_rfl)|fail);(conv=>whnf)))
      exact hn31 _ false hc30 (weak_gen [] rfl rfl storeLe.nil (slotsLe.cons (cR rfl rfl) slotsLe.nil))
    ·clear hc30 h31
     intro s5 hc33
     ((conv=>whnf);repeat((first|apply TT mix|apply sE rfl|apply dG (by kernel_rfl)|fail);(conv=>whnf)))
     refine br_b rfl hc33 (fun c34 hc33 => ?_) (fun c34 hc33 => ?_)
     ·have e := Option.some.inj hc33; subst e
      ((conv=>whnf);repeat((first|apply TT mix|apply sE rfl|apply dG (by kernel_rfl)|fail);(conv=>whnf)))
      exact And.intro (AV.Le.refl _) rfl
     ·have e := Option.some.inj hc33; subst e
      ((conv=>whnf);repeat((first|apply TT mix|apply sE rfl|apply dG (by kernel_rfl)|fail);(conv=>whnf)))
      exact And.intro (AV.Le.err_nil) rfl
end Go.Proofs.YtclhniadffljdaaDoor
