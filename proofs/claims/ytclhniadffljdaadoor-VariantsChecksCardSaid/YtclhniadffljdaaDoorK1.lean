/- Contracts of functions, walked by their models; printed by a program of ours. No condition. -/
import Derived.Test.YtclhniadffljdaaDoorK0
import Derived.Test.YtclhniadffljdaaDoorProg
import Derived.KernelRfl
namespace Go.Proofs.YtclhniadffljdaaDoor
open Go Go.SE
set_option linter.unusedVariables false
set_option linter.unusedSimpArgs false
set_option maxRecDepth 10000
set_option maxHeartbeats 2000000
attribute [local irreducible] Contract iter
theorem c_variants_Check (p_f : T_api_Family) (r : Er) (h : m_variants_Check p_f = some r) : Contract pl 12 [(e_api_Family p_f)] [] (AV.err r) [] := by
 refine contract_of_gho (.t false .z (.t false (.w (.t true .z .z)) (.t false .z (.t true .z (.m (.t false (.t false .z (.t false (.t false (.t false .z (.t false .z (.t false (.t false (.t false .z (.t false .z (.t false .z (.t false (.t false (.t false .z (.t false .z (.t false (.t false (.t false .z (.t false (.t false (.t false .z .z) .z) (.t false .z .z))) .z) .z))) .z) .z)))) .z) .z))) .z) .z)) .z)))))) Tryd.func12 rfl (by kernel_rfl) fun G => ?_
 ((conv=>whnf);repeat((first|apply TT mix|apply MM 54 rfl|apply GG rfl|apply sE rfl|apply dG (by kernel_rfl)|(refine mregQ_of ⟨rfl, rfl, rfl, fun _ => rfl, rfl⟩ ?_)|fail);(conv=>whnf)))
 refine bnd h (fun x30 h30 h => ?_)
 refine cut_at (fun s1 : Bool => mkF 80 [(1, (.mp 0 0 0)), (27, (.bool s1))] [some ⟨2, 24, (.vals [(e_api_Family p_f)]), false, false⟩]) (fun s1 : Bool => m_variants_Check_K2 p_f s1 = some r) ?_ ?_
 ·intro Kn30 hn30
  ((conv=>whnf);repeat((first|apply TT mix|apply MM 54 rfl|apply GG rfl|apply sE rfl|apply dG (by kernel_rfl)|(refine mregQ_of ⟨rfl, rfl, rfl, fun _ => rfl, rfl⟩ ?_)|fail);(conv=>whnf)))
  refine br_b rfl h30 (fun c31 h30 => ?_) (fun c31 h30 => ?_)
  ·have e := Option.some.inj h30; subst e
   ((conv=>whnf);repeat((first|apply TT mix|apply MM 54 rfl|apply GG rfl|apply sE rfl|apply dG (by kernel_rfl)|(refine mregQ_of ⟨rfl, rfl, rfl, fun _ => rfl, rfl⟩ ?_)|fail);(conv=>whnf)))
   exact hn30 _ true h (weak_gen [0] rfl rfl (sK rfl (rowLe_vals (valsLe.cons (cellsLe_refl rfl) valsLe.nil)) storeLe.nil) (sQ rfl rfl))
  ·((conv=>whnf);repeat((first|apply TT mix|apply MM 54 rfl|apply GG rfl|apply sE rfl|apply dG (by kernel_rfl)|(refine mregQ_of ⟨rfl, rfl, rfl, fun _ => rfl, rfl⟩ ?_)|fail);(conv=>whnf)))
   refine br_b rfl h30 (fun c32 h30 => ?_) (fun c32 h30 => ?_)
   ·have e := Option.some.inj h30; subst e
    ((conv=>whnf);repeat((first|apply TT mix|apply MM 54 rfl|apply GG rfl|apply sE rfl|apply dG (by kernel_rfl)|(refine mregQ_of ⟨rfl, rfl, rfl, fun _ => rfl, rfl⟩ ?_)|fail);(conv=>whnf)))
    exact hn30 _ true h (weak_gen [0] rfl rfl (sK rfl (rowLe_vals (valsLe.cons (cellsLe_refl rfl) valsLe.nil)) storeLe.nil) (sQ rfl rfl))
   ·((conv=>whnf);repeat((first|apply TT mix|apply MM 54 rfl|apply GG rfl|apply sE rfl|apply dG (by kernel_rfl)|(refine mregQ_of ⟨rfl, rfl, rfl, fun _ => rfl, rfl⟩ ?_)|fail);(conv=>whnf)))
    refine bnd h30 (fun y29 hy29 h30 => ?_)
    refine Or.inl ⟨_, c_utf_Valid _ _ hy29, rfl, ?_⟩
    have e := Option.some.inj h30; subst e
    ((conv=>whnf);repeat((first|apply TT mix|apply MM 54 rfl|apply GG rfl|apply sE rfl|apply dG (by kernel_rfl)|(refine mregQ_of ⟨rfl, rfl, rfl, fun _ => rfl, rfl⟩ ?_)|fail);(conv=>whnf)))
    exact hn30 _ (!y29) h (weak_gen [0] rfl rfl (sK rfl (rowLe_vals (valsLe.cons (cellsLe_refl rfl) valsLe.nil)) storeLe.nil) (sQ rfl rfl))
 ·clear h h30
  intro s1 hc33
  ((conv=>whnf);repeat((first|apply TT mix|apply MM 54 rfl|apply GG rfl|apply sE rfl|apply dG (by kernel_rfl)|(refine mregQ_of ⟨rfl, rfl, rfl, fun _ => rfl, rfl⟩ ?_)|fail);(conv=>whnf)))
  refine br_b rfl hc33 (fun c34 hc33 => ?_) (fun c34 hc33 => ?_)
  ·((conv=>whnf);repeat((first|apply TT mix|apply MM 54 rfl|apply GG rfl|apply sE rfl|apply dG (by kernel_rfl)|(refine mregQ_of ⟨rfl, rfl, rfl, fun _ => rfl, rfl⟩ ?_)|fail);(conv=>whnf)))
   refine bnd hc33 (fun y3 hy3 hc33 => ?_)
   refine Or.inl ⟨_, c_variants_fault _ _ _ hy3, rfl, ?_⟩
   have e := Option.some.inj hc33; subst e
   ((conv=>whnf);repeat((first|apply TT mix|apply MM 54 rfl|apply GG rfl|apply sE rfl|apply dG (by kernel_rfl)|(refine mregQ_of ⟨rfl, rfl, rfl, fun _ => rfl, rfl⟩ ?_)|fail);(conv=>whnf)))
   exact And.intro (AV.Le.refl _) rfl
  ·((conv=>whnf);repeat((first|apply TT mix|apply MM 54 rfl|apply GG rfl|apply sE rfl|apply dG (by kernel_rfl)|(refine mregQ_of ⟨rfl, rfl, rfl, fun _ => rfl, rfl⟩ ?_)|fail);(conv=>whnf)))
   refine bnd hc33 (fun x35 h35 hc33 => ?_)
   refine cut_at (fun s4 : Unit => mkF 80 [(1, (.mp 0 0 0))] [some ⟨2, 24, (.vals [(e_api_Family p_f)]), false, false⟩]) (fun s4 : Unit => m_variants_Check_K5 p_f s4 = some r) ?_ ?_
   ·intro Kn35 hn35
    ((conv=>whnf);repeat((first|apply TT mix|apply MM 54 rfl|apply GG rfl|apply sE rfl|apply dG (by kernel_rfl)|(refine mregQ_of ⟨rfl, rfl, rfl, fun _ => rfl, rfl⟩ ?_)|fail);(conv=>whnf)))
    refine loop_iter (fun s22 : Int × Int => mkF 80 [(1, (.mp 0 0 0)), (3, (.int .i64 s22.1)), (31, (e_L_L_i32 p_f.f_Sets)), (32, (.int .i64 ((p_f.f_Sets.length : Nat) : Int))), (33, (.int .i64 s22.2))] [some ⟨2, 24, (.vals [(e_api_Family p_f)]), false, false⟩]) h35 (weak_gen [0] rfl rfl (sK rfl (rowLe_vals (valsLe.cons (cellsLe_refl rfl) valsLe.nil)) storeLe.nil) (sQ rfl rfl)) ?_
    intro k24 s22 st24 Kn24 hn24 h24_ hs24
    ((conv=>whnf);repeat((first|apply TT mix|apply MM 54 rfl|apply GG rfl|apply sE rfl|apply dG (by kernel_rfl)|(refine mregQ_of ⟨rfl, rfl, rfl, fun _ => rfl, rfl⟩ ?_)|fail);(conv=>whnf)))
    refine br_b rfl h24_ (fun c36 h24_ => ?_) (fun c36 h24_ => ?_)
    ·((conv=>whnf);repeat((first|apply TT mix|apply MM 54 rfl|apply GG rfl|apply sE rfl|apply dG (by kernel_rfl)|(refine mregQ_of ⟨rfl, rfl, rfl, fun _ => rfl, rfl⟩ ?_)|fail);(conv=>whnf)))
     refine grd2 rfl rfl h24_ (fun h24_ => ?_)
     ((conv=>whnf);repeat((first|apply TT mix|apply MM 54 rfl|apply GG rfl|apply sE rfl|apply dG (by kernel_rfl)|(refine mregQ_of ⟨rfl, rfl, rfl, fun _ => rfl, rfl⟩ ?_)|fail);(conv=>whnf)))
     refine br_b rfl h24_ (fun c37 h24_ => ?_) (fun c37 h24_ => ?_)
     ·((conv=>whnf);repeat((first|apply TT mix|apply MM 54 rfl|apply GG rfl|apply sE rfl|apply dG (by kernel_rfl)|(refine mregQ_of ⟨rfl, rfl, rfl, fun _ => rfl, rfl⟩ ?_)|fail);(conv=>whnf)))
      refine bnd h24_ (fun y25 hy25 h24_ => ?_)
      refine Or.inl ⟨_, c_variants_fault _ _ _ hy25, rfl, ?_⟩
      have e := Option.some.inj h24_; subst e
      have e := done_out hs24; subst e
      have e := Option.some.inj hc33; subst e
      ((conv=>whnf);repeat((first|apply TT mix|apply MM 54 rfl|apply GG rfl|apply sE rfl|apply dG (by kernel_rfl)|(refine mregQ_of ⟨rfl, rfl, rfl, fun _ => rfl, rfl⟩ ?_)|fail);(conv=>whnf)))
      exact And.intro (AV.Le.refl _) rfl
     ·have e := Option.some.inj h24_; subst e
      ((conv=>whnf);repeat((first|apply TT mix|apply MM 54 rfl|apply GG rfl|apply sE rfl|apply dG (by kernel_rfl)|(refine mregQ_of ⟨rfl, rfl, rfl, fun _ => rfl, rfl⟩ ?_)|fail);(conv=>whnf)))
      exact hn24 _ ((IntKind.wrap .i64 (s22.1 + (((p_f.f_Sets.getD (s22.2.toNat) []).length : Nat) : Int))), (IntKind.wrap .i64 (s22.2 + (1 : Int)))) hs24 (weak_gen [0] rfl rfl (sK rfl (rowLe_vals (valsLe.cons (cellsLe_refl rfl) valsLe.nil)) storeLe.nil) (sQ rfl rfl))
    ·have e := Option.some.inj h24_; subst e
     have e := done_out hs24; subst e
     ((conv=>whnf);repeat((first|apply TT mix|apply MM 54 rfl|apply GG rfl|apply sE rfl|apply dG (by kernel_rfl)|(refine mregQ_of ⟨rfl, rfl, rfl, fun _ => rfl, rfl⟩ ?_)|fail);(conv=>whnf)))
     exact hn35 _ () hc33 (weak_gen [0] rfl rfl (sK rfl (rowLe_vals (valsLe.cons (cellsLe_refl rfl) valsLe.nil)) storeLe.nil) (slotsLe.cons (cR rfl rfl) slotsLe.nil))
   ·clear hc33 h35
    intro s4 hc38
    ((conv=>whnf);repeat((first|apply TT mix|apply MM 54 rfl|apply GG rfl|apply sE rfl|apply dG (by kernel_rfl)|(refine mregQ_of ⟨rfl, rfl, rfl, fun _ => rfl, rfl⟩ ?_)|fail);(conv=>whnf)))
    refine Ymk 21 3 .i32 rfl rfl fun b => ?_
    ((conv=>whnf);repeat((first|apply TT mix|apply MM 54 rfl|apply GG rfl|apply sE rfl|apply dG (by kernel_rfl)|(refine mregQ_of ⟨rfl, rfl, rfl, fun _ => rfl, rfl⟩ ?_)|fail);(conv=>whnf)))
    refine bnd hc38 (fun x9 hx9 hc38 => ?_)
    refine gloop_iter (fun s7 : Int × (List Int) => mkF 80 [(1, (.mp 0 0 0)), (6, (.mapr b)), (48, (e_L_L_i32 p_f.f_Sets)), (49, (.int .i64 ((p_f.f_Sets.length : Nat) : Int))), (50, (.int .i64 s7.1))] [some ⟨2, 24, (.vals [(e_api_Family p_f)]), false, false⟩]) (fun s7 : Int × (List Int) => (s7.2.map (AV.int .i32))) hx9 (weak_gen [0] rfl rfl (sK rfl (rowLe_vals (valsLe.cons (cellsLe_refl rfl) valsLe.nil)) storeLe.nil) (sQ rfl rfl)) rfl ?_
    intro k9 s7 st9 Kn9 hn9 h9 hs9
    ((conv=>whnf);repeat((first|apply TT mix|apply MM 54 rfl|apply GG rfl|apply sE rfl|apply dG (by kernel_rfl)|(refine mregQ_of ⟨rfl, rfl, rfl, fun _ => rfl, rfl⟩ ?_)|fail);(conv=>whnf)))
    refine br_b rfl h9 (fun c39 h9 => ?_) (fun c39 h9 => ?_)
    ·((conv=>whnf);repeat((first|apply TT mix|apply MM 54 rfl|apply GG rfl|apply sE rfl|apply dG (by kernel_rfl)|(refine mregQ_of ⟨rfl, rfl, rfl, fun _ => rfl, rfl⟩ ?_)|fail);(conv=>whnf)))
     refine grd2 rfl rfl h9 (fun h9 => ?_)
     ((conv=>whnf);repeat((first|apply TT mix|apply MM 54 rfl|apply GG rfl|apply sE rfl|apply dG (by kernel_rfl)|(refine mregQ_of ⟨rfl, rfl, rfl, fun _ => rfl, rfl⟩ ?_)|fail);(conv=>whnf)))
     refine bnd h9 (fun y10 hy10 h9 => ?_)
     refine Or.inl ⟨_, c_variants_setError _ _ _ hy10, rfl, ?_⟩
     ((conv=>whnf);repeat((first|apply TT mix|apply MM 54 rfl|apply GG rfl|apply sE rfl|apply dG (by kernel_rfl)|(refine mregQ_of ⟨rfl, rfl, rfl, fun _ => rfl, rfl⟩ ?_)|fail);(conv=>whnf)))
     refine br_b rfl h9 (fun c40 h9 => ?_) (fun c40 h9 => ?_)
     ·((conv=>whnf);repeat((first|apply TT mix|apply MM 54 rfl|apply GG rfl|apply sE rfl|apply dG (by kernel_rfl)|(refine mregQ_of ⟨rfl, rfl, rfl, fun _ => rfl, rfl⟩ ?_)|fail);(conv=>whnf)))
      refine bnd h9 (fun y11 hy11 h9 => ?_)
      refine Or.inl ⟨_, c_variants_fault _ _ _ hy11, rfl, ?_⟩
      have e := Option.some.inj h9; subst e
      have e := done_out hs9; subst e
      have e := Option.some.inj hc38; subst e
      ((conv=>whnf);repeat((first|apply TT mix|apply MM 54 rfl|apply GG rfl|apply sE rfl|apply dG (by kernel_rfl)|(refine mregQ_of ⟨rfl, rfl, rfl, fun _ => rfl, rfl⟩ ?_)|fail);(conv=>whnf)))
      exact And.intro (AV.Le.refl _) rfl
     ·((conv=>whnf);repeat((first|apply TT mix|apply MM 54 rfl|apply GG rfl|apply sE rfl|apply dG (by kernel_rfl)|(refine mregQ_of ⟨rfl, rfl, rfl, fun _ => rfl, rfl⟩ ?_)|fail);(conv=>whnf)))
      refine bnd h9 (fun x15 hx15 h9 => ?_)
      refine gloop_iter (fun s13 : Int × (List Int) => mkF 80 [(1, (.mp 0 0 0)), (6, (.mapr b)), (7, (.int .i64 s7.1)), (48, (e_L_L_i32 p_f.f_Sets)), (49, (.int .i64 ((p_f.f_Sets.length : Nat) : Int))), (50, (.int .i64 s7.1)), (63, (e_L_i32 (p_f.f_Sets.getD (s7.1.toNat) []))), (64, (.int .i64 (((p_f.f_Sets.getD (s7.1.toNat) []).length : Nat) : Int))), (65, (.int .i64 s13.1))] [some ⟨2, 24, (.vals [(e_api_Family p_f)]), false, false⟩]) (fun s13 : Int × (List Int) => (s13.2.map (AV.int .i32))) hx15 (weak_gen [0] rfl rfl (sK rfl (rowLe_vals (valsLe.cons (cellsLe_refl rfl) valsLe.nil)) storeLe.nil) (sQ rfl rfl)) rfl ?_
      intro k15 s13 st15 Kn15 hn15 h15 hs15
      ((conv=>whnf);repeat((first|apply TT mix|apply MM 54 rfl|apply GG rfl|apply sE rfl|apply dG (by kernel_rfl)|(refine mregQ_of ⟨rfl, rfl, rfl, fun _ => rfl, rfl⟩ ?_)|fail);(conv=>whnf)))
      refine br_b rfl h15 (fun c41 h15 => ?_) (fun c41 h15 => ?_)
      ·((conv=>whnf);repeat((first|apply TT mix|apply MM 54 rfl|apply GG rfl|apply sE rfl|apply dG (by kernel_rfl)|(refine mregQ_of ⟨rfl, rfl, rfl, fun _ => rfl, rfl⟩ ?_)|fail);(conv=>whnf)))
       refine grd2 rfl rfl h15 (fun h15 => ?_)
       ((conv=>whnf);repeat((first|apply TT mix|apply MM 54 rfl|apply GG rfl|apply sE rfl|apply dG (by kernel_rfl)|(refine mregQ_of ⟨rfl, rfl, rfl, fun _ => rfl, rfl⟩ ?_)|fail);(conv=>whnf)))
       obtain ⟨p42, h15⟩ := grdO h15
       refine ⟨rfl, rfl, rfl, wfR _ p42, ?_⟩
       ((conv=>whnf);repeat((first|apply TT mix|apply MM 54 rfl|apply GG rfl|apply sE rfl|apply dG (by kernel_rfl)|(refine mregQ_of ⟨rfl, rfl, rfl, fun _ => rfl, rfl⟩ ?_)|fail);(conv=>whnf)))
       refine br_b rfl h15 (fun c43 h15 => ?_) (fun c43 h15 => ?_)
       ·((conv=>whnf);repeat((first|apply TT mix|apply MM 54 rfl|apply GG rfl|apply sE rfl|apply dG (by kernel_rfl)|(refine mregQ_of ⟨rfl, rfl, rfl, fun _ => rfl, rfl⟩ ?_)|fail);(conv=>whnf)))
        refine bnd h15 (fun y16 hy16 h15 => ?_)
        refine Or.inl ⟨_, c_variants_fault _ _ _ hy16, rfl, ?_⟩
        have e := Option.some.inj h15; subst e
        have e := done_out hs15; subst e
        have e := Option.some.inj h9; subst e
        have e := done_out hs9; subst e
        have e := Option.some.inj hc38; subst e
        ((conv=>whnf);repeat((first|apply TT mix|apply MM 54 rfl|apply GG rfl|apply sE rfl|apply dG (by kernel_rfl)|(refine mregQ_of ⟨rfl, rfl, rfl, fun _ => rfl, rfl⟩ ?_)|fail);(conv=>whnf)))
        exact And.intro (AV.Le.refl _) rfl
       ·((conv=>whnf);repeat((first|apply TT mix|apply MM 54 rfl|apply GG rfl|apply sE rfl|apply dG (by kernel_rfl)|(refine mregQ_of ⟨rfl, rfl, rfl, fun _ => rfl, rfl⟩ ?_)|fail);(conv=>whnf)))
        obtain ⟨p44, h15⟩ := grdO h15
        refine ⟨rfl, rfl, rfl, wfR _ p44.1, p44.2, ?_⟩
        have e := Option.some.inj h15; subst e
        ((conv=>whnf);repeat((first|apply TT mix|apply MM 54 rfl|apply GG rfl|apply sE rfl|apply dG (by kernel_rfl)|(refine mregQ_of ⟨rfl, rfl, rfl, fun _ => rfl, rfl⟩ ?_)|fail);(conv=>whnf)))
        exact hn15 _ ((IntKind.wrap .i64 (s13.1 + (1 : Int))), (s13.2 ++ [((p_f.f_Sets.getD (s7.1.toNat) []).getD (s13.1.toNat) 0)])) _ hs15 (weak_gen [0] rfl rfl (sK rfl (rowLe_vals (valsLe.cons (cellsLe_refl rfl) valsLe.nil)) storeLe.nil) (sQ rfl rfl)) (by first | rfl | simp)
      ·have e := Option.some.inj h15; subst e
       have e := done_out hs15; subst e
       have e := Option.some.inj h9; subst e
       ((conv=>whnf);repeat((first|apply TT mix|apply MM 54 rfl|apply GG rfl|apply sE rfl|apply dG (by kernel_rfl)|(refine mregQ_of ⟨rfl, rfl, rfl, fun _ => rfl, rfl⟩ ?_)|fail);(conv=>whnf)))
       exact hn9 _ ((IntKind.wrap .i64 (s7.1 + (1 : Int))), s13.2) _ hs9 (weak_gen [0] rfl rfl (sK rfl (rowLe_vals (valsLe.cons (cellsLe_refl rfl) valsLe.nil)) storeLe.nil) (sQ rfl rfl)) (by first | rfl | simp)
    ·have e := Option.some.inj h9; subst e
     have e := done_out hs9; subst e
     have e := Option.some.inj hc38; subst e
     ((conv=>whnf);repeat((first|apply TT mix|apply MM 54 rfl|apply GG rfl|apply sE rfl|apply dG (by kernel_rfl)|(refine mregQ_of ⟨rfl, rfl, rfl, fun _ => rfl, rfl⟩ ?_)|fail);(conv=>whnf)))
     exact And.intro (AV.Le.err_nil) rfl
theorem c_eponymlaw01_Named (p_code : Int) (r : Er) (h : m_eponymlaw01_Named p_code = some r) : Contract pl 41 [(AV.int .i64 p_code)] [] (AV.err r) [] := by
 refine contract_of .z Tryd.func41 rfl (by kernel_rfl) ?_
 ((conv=>whnf);repeat((first|apply TT mix|apply sE rfl|apply dG (by kernel_rfl)|fail);(conv=>whnf)))
 refine br_b rfl h (fun c1 h => ?_) (fun c1 h => ?_)
 ·have e := Option.some.inj h; subst e
  ((conv=>whnf);repeat((first|apply TT mix|apply sE rfl|apply dG (by kernel_rfl)|fail);(conv=>whnf)))
  exact And.intro (AV.Le.refl _) rfl
 ·((conv=>whnf);repeat((first|apply TT mix|apply sE rfl|apply dG (by kernel_rfl)|fail);(conv=>whnf)))
  refine br_b rfl h (fun c2 h => ?_) (fun c2 h => ?_)
  ·have e := Option.some.inj h; subst e
   ((conv=>whnf);repeat((first|apply TT mix|apply sE rfl|apply dG (by kernel_rfl)|fail);(conv=>whnf)))
   exact And.intro (AV.Le.refl _) rfl
  ·((conv=>whnf);repeat((first|apply TT mix|apply sE rfl|apply dG (by kernel_rfl)|fail);(conv=>whnf)))
   refine br_b rfl h (fun c3 h => ?_) (fun c3 h => ?_)
   ·have e := Option.some.inj h; subst e
    ((conv=>whnf);repeat((first|apply TT mix|apply sE rfl|apply dG (by kernel_rfl)|fail);(conv=>whnf)))
    exact And.intro (AV.Le.refl _) rfl
   ·((conv=>whnf);repeat((first|apply TT mix|apply sE rfl|apply dG (by kernel_rfl)|fail);(conv=>whnf)))
    refine br_b rfl h (fun c4 h => ?_) (fun c4 h => ?_)
    ·have e := Option.some.inj h; subst e
     ((conv=>whnf);repeat((first|apply TT mix|apply sE rfl|apply dG (by kernel_rfl)|fail);(conv=>whnf)))
     exact And.intro (AV.Le.refl _) rfl
    ·((conv=>whnf);repeat((first|apply TT mix|apply sE rfl|apply dG (by kernel_rfl)|fail);(conv=>whnf)))
     refine br_b rfl h (fun c5 h => ?_) (fun c5 h => ?_)
     ·have e := Option.some.inj h; subst e
      ((conv=>whnf);repeat((first|apply TT mix|apply sE rfl|apply dG (by kernel_rfl)|fail);(conv=>whnf)))
      exact And.intro (AV.Le.refl _) rfl
     ·((conv=>whnf);repeat((first|apply TT mix|apply sE rfl|apply dG (by kernel_rfl)|fail);(conv=>whnf)))
      refine br_b rfl h (fun c6 h => ?_) (fun c6 h => ?_)
      ·have e := Option.some.inj h; subst e
       ((conv=>whnf);repeat((first|apply TT mix|apply sE rfl|apply dG (by kernel_rfl)|fail);(conv=>whnf)))
       exact And.intro (AV.Le.refl _) rfl
      ·((conv=>whnf);repeat((first|apply TT mix|apply sE rfl|apply dG (by kernel_rfl)|fail);(conv=>whnf)))
       refine br_b rfl h (fun c7 h => ?_) (fun c7 h => ?_)
       ·have e := Option.some.inj h; subst e
        ((conv=>whnf);repeat((first|apply TT mix|apply sE rfl|apply dG (by kernel_rfl)|fail);(conv=>whnf)))
        exact And.intro (AV.Le.refl _) rfl
       ·((conv=>whnf);repeat((first|apply TT mix|apply sE rfl|apply dG (by kernel_rfl)|fail);(conv=>whnf)))
        refine br_b rfl h (fun c8 h => ?_) (fun c8 h => ?_)
        ·have e := Option.some.inj h; subst e
         ((conv=>whnf);repeat((first|apply TT mix|apply sE rfl|apply dG (by kernel_rfl)|fail);(conv=>whnf)))
         exact And.intro (AV.Le.refl _) rfl
        ·((conv=>whnf);repeat((first|apply TT mix|apply sE rfl|apply dG (by kernel_rfl)|fail);(conv=>whnf)))
         refine br_b rfl h (fun c9 h => ?_) (fun c9 h => ?_)
         ·have e := Option.some.inj h; subst e
          ((conv=>whnf);repeat((first|apply TT mix|apply sE rfl|apply dG (by kernel_rfl)|fail);(conv=>whnf)))
          exact And.intro (AV.Le.refl _) rfl
         ·((conv=>whnf);repeat((first|apply TT mix|apply sE rfl|apply dG (by kernel_rfl)|fail);(conv=>whnf)))
          refine br_b rfl h (fun c10 h => ?_) (fun c10 h => ?_)
          ·have e := Option.some.inj h; subst e
           ((conv=>whnf);repeat((first|apply TT mix|apply sE rfl|apply dG (by kernel_rfl)|fail);(conv=>whnf)))
           exact And.intro (AV.Le.refl _) rfl
          ·((conv=>whnf);repeat((first|apply TT mix|apply sE rfl|apply dG (by kernel_rfl)|fail);(conv=>whnf)))
           refine br_b rfl h (fun c11 h => ?_) (fun c11 h => ?_)
           ·have e := Option.some.inj h; subst e
            ((conv=>whnf);repeat((first|apply TT mix|apply sE rfl|apply dG (by kernel_rfl)|fail);(conv=>whnf)))
            exact And.intro (AV.Le.refl _) rfl
           ·((conv=>whnf);repeat((first|apply TT mix|apply sE rfl|apply dG (by kernel_rfl)|fail);(conv=>whnf)))
            refine br_b rfl h (fun c12 h => ?_) (fun c12 h => ?_)
            ·have e := Option.some.inj h; subst e
             ((conv=>whnf);repeat((first|apply TT mix|apply sE rfl|apply dG (by kernel_rfl)|fail);(conv=>whnf)))
             exact And.intro (AV.Le.refl _) rfl
            ·((conv=>whnf);repeat((first|apply TT mix|apply sE rfl|apply dG (by kernel_rfl)|fail);(conv=>whnf)))
             refine br_b rfl h (fun c13 h => ?_) (fun c13 h => ?_)
             ·have e := Option.some.inj h; subst e
              ((conv=>whnf);repeat((first|apply TT mix|apply sE rfl|apply dG (by kernel_rfl)|fail);(conv=>whnf)))
              exact And.intro (AV.Le.refl _) rfl
             ·((conv=>whnf);repeat((first|apply TT mix|apply sE rfl|apply dG (by kernel_rfl)|fail);(conv=>whnf)))
              refine br_b rfl h (fun c14 h => ?_) (fun c14 h => ?_)
              ·have e := Option.some.inj h; subst e
               ((conv=>whnf);repeat((first|apply TT mix|apply sE rfl|apply dG (by kernel_rfl)|fail);(conv=>whnf)))
               exact And.intro (AV.Le.refl _) rfl
              ·((conv=>whnf);repeat((first|apply TT mix|apply sE rfl|apply dG (by kernel_rfl)|fail);(conv=>whnf)))
               refine br_b rfl h (fun c15 h => ?_) (fun c15 h => ?_)
               ·have e := Option.some.inj h; subst e
                ((conv=>whnf);repeat((first|apply TT mix|apply sE rfl|apply dG (by kernel_rfl)|fail);(conv=>whnf)))
                exact And.intro (AV.Le.refl _) rfl
               ·((conv=>whnf);repeat((first|apply TT mix|apply sE rfl|apply dG (by kernel_rfl)|fail);(conv=>whnf)))
                refine br_b rfl h (fun c16 h => ?_) (fun c16 h => ?_)
                ·have e := Option.some.inj h; subst e
                 ((conv=>whnf);repeat((first|apply TT mix|apply sE rfl|apply dG (by kernel_rfl)|fail);(conv=>whnf)))
                 exact And.intro (AV.Le.refl _) rfl
                ·((conv=>whnf);repeat((first|apply TT mix|apply sE rfl|apply dG (by kernel_rfl)|fail);(conv=>whnf)))
                 refine br_b rfl h (fun c17 h => ?_) (fun c17 h => ?_)
                 ·have e := Option.some.inj h; subst e
                  ((conv=>whnf);repeat((first|apply TT mix|apply sE rfl|apply dG (by kernel_rfl)|fail);(conv=>whnf)))
                  exact And.intro (AV.Le.refl _) rfl
                 ·((conv=>whnf);repeat((first|apply TT mix|apply sE rfl|apply dG (by kernel_rfl)|fail);(conv=>whnf)))
                  refine br_b rfl h (fun c18 h => ?_) (fun c18 h => ?_)
                  ·have e := Option.some.inj h; subst e
                   ((conv=>whnf);repeat((first|apply TT mix|apply sE rfl|apply dG (by kernel_rfl)|fail);(conv=>whnf)))
                   exact And.intro (AV.Le.refl _) rfl
                  ·have e := Option.some.inj h; subst e
                   ((conv=>whnf);repeat((first|apply TT mix|apply sE rfl|apply dG (by kernel_rfl)|fail);(conv=>whnf)))
                   exact And.intro (AV.Le.err_nil) rfl
theorem c_eponymlaw01_Is (p_e : Er) (p_at : Int) (p_code : Int) (r : Bool) (h : m_eponymlaw01_Is p_e p_at p_code = some r) : Contract pl 19 [(AV.err p_e), (AV.int .i64 p_at), (AV.int .i64 p_code)] [] (AV.bool r) [] := by
 refine contract_of .z Tryd.func19 rfl (by kernel_rfl) ?_
 ((conv=>whnf);repeat((first|apply TT mix|apply sE rfl|apply dG (by kernel_rfl)|fail);(conv=>whnf)))
 refine br_b rfl h (fun c4 h => ?_) (fun c4 h => ?_)
 ·have e := Option.some.inj h; subst e
  ((conv=>whnf);repeat((first|apply TT mix|apply sE rfl|apply dG (by kernel_rfl)|fail);(conv=>whnf)))
  exact And.intro (AV.Le.refl _) rfl
 ·((conv=>whnf);repeat((first|apply TT mix|apply sE rfl|apply dG (by kernel_rfl)|fail);(conv=>whnf)))
  refine br_b rfl h (fun c5 h => ?_) (fun c5 h => ?_)
  ·((conv=>whnf);repeat((first|apply TT mix|apply sE rfl|apply dG (by kernel_rfl)|fail);(conv=>whnf)))
   refine br_e h (fun hx h => ?_) (fun hx h => ?_)
   ·refine Or.inr (own_intro (own_call [0] (c_errors_As_nil _ hx) rfl (storeLe.cons rfl (objLe.mk (by intro hf; first | exact hf | rfl) (by intro hf; first | exact hf | rfl) (rowLe_vals (valsLe.cons (cellsLe_refl rfl) valsLe.nil))) storeLe.nil) (cellsLe.cons (And.intro rfl (AV.Le.refl _)) (cellsLe.cons (And.intro rfl (AV.Le.refl _)) cellsLe.nil)) rfl) ?_)
    have e := Option.some.inj h; subst e
    ((conv=>whnf);repeat((first|apply TT mix|apply sE rfl|apply dG (by kernel_rfl)|fail);(conv=>whnf)))
    exact And.intro (AV.Le.refl _) rfl
   ·((conv=>whnf);repeat((first|apply TT mix|apply sE rfl|apply dG (by kernel_rfl)|fail);(conv=>whnf)))
    refine bnd h (fun y1 hy1 h => ?_)
    refine Or.inr (own_intro (own_call [0] (c_errors_As _ _ hy1) rfl (storeLe.cons rfl (objLe.mk (by intro hf; first | exact hf | rfl) (by intro hf; first | exact hf | rfl) (rowLe_vals (valsLe.cons (cellsLe_refl rfl) valsLe.nil))) storeLe.nil) (cellsLe.cons (And.intro rfl (AV.Le.refl _)) (cellsLe.cons (And.intro rfl (AV.Le.refl _)) cellsLe.nil)) rfl) ?_)
    ((conv=>whnf);repeat((first|apply TT mix|apply sE rfl|apply dG (by kernel_rfl)|fail);(conv=>whnf)))
    refine br_b rfl h (fun c6 h => ?_) (fun c6 h => ?_)
    ·((conv=>whnf);repeat((first|apply TT mix|apply sE rfl|apply dG (by kernel_rfl)|fail);(conv=>whnf)))
     refine bnd h (fun y2 hy2 h => ?_)
     refine Or.inl ⟨_, c_eponymlaw01_Named _ _ hy2, rfl, ?_⟩
     ((conv=>whnf);repeat((first|apply TT mix|apply sE rfl|apply dG (by kernel_rfl)|fail);(conv=>whnf)))
     refine bnd h (fun y3 hy3 h => ?_)
     refine Or.inl ⟨_, c_errors_Is _ _ _ hy3, rfl, ?_⟩
     have e := Option.some.inj h; subst e
     ((conv=>whnf);repeat((first|apply TT mix|apply sE rfl|apply dG (by kernel_rfl)|fail);(conv=>whnf)))
     exact And.intro (AV.Le.refl _) rfl
    ·have e := Option.some.inj h; subst e
     ((conv=>whnf);repeat((first|apply TT mix|apply sE rfl|apply dG (by kernel_rfl)|fail);(conv=>whnf)))
     exact And.intro (AV.Le.refl _) rfl
  ·have e := Option.some.inj h; subst e
   ((conv=>whnf);repeat((first|apply TT mix|apply sE rfl|apply dG (by kernel_rfl)|fail);(conv=>whnf)))
   exact And.intro (AV.Le.refl _) rfl
theorem c_eponymlaw19_VariantsChecks (p_f : T_api_Family) (r : Bool) (h : m_eponymlaw19_VariantsChecks p_f = some r) : Contract pl 4 [(e_api_Family p_f)] [] (AV.bool r) [] := by
 refine contract_of .z Tryd.func4 rfl (by kernel_rfl) ?_
 ((conv=>whnf);repeat((first|apply TT mix|apply sE rfl|apply dG (by kernel_rfl)|fail);(conv=>whnf)))
 refine bnd h (fun y1 hy1 h => ?_)
 refine Or.inl ⟨_, c_eponymlaw19_awake  _ hy1, rfl, ?_⟩
 ((conv=>whnf);repeat((first|apply TT mix|apply sE rfl|apply dG (by kernel_rfl)|fail);(conv=>whnf)))
 refine br_b rfl h (fun c6 h => ?_) (fun c6 h => ?_)
 ·have e := Option.some.inj h; subst e
  ((conv=>whnf);repeat((first|apply TT mix|apply sE rfl|apply dG (by kernel_rfl)|fail);(conv=>whnf)))
  exact And.intro (AV.Le.refl _) rfl
 ·((conv=>whnf);repeat((first|apply TT mix|apply sE rfl|apply dG (by kernel_rfl)|fail);(conv=>whnf)))
  refine bnd h (fun y2 hy2 h => ?_)
  refine Or.inl ⟨_, c_eponymlaw19_Great _ _ hy2, rfl, ?_⟩
  ((conv=>whnf);repeat((first|apply TT mix|apply sE rfl|apply dG (by kernel_rfl)|fail);(conv=>whnf)))
  refine br_b rfl h (fun c7 h => ?_) (fun c7 h => ?_)
  ·have e := Option.some.inj h; subst e
   ((conv=>whnf);repeat((first|apply TT mix|apply sE rfl|apply dG (by kernel_rfl)|fail);(conv=>whnf)))
   exact And.intro (AV.Le.refl _) rfl
  ·((conv=>whnf);repeat((first|apply TT mix|apply sE rfl|apply dG (by kernel_rfl)|fail);(conv=>whnf)))
   refine bnd h (fun y3 hy3 h => ?_)
   refine Or.inl ⟨_, c_eponymref19_Check _ _ hy3, rfl, ?_⟩
   ((conv=>whnf);repeat((first|apply TT mix|apply sE rfl|apply dG (by kernel_rfl)|fail);(conv=>whnf)))
   refine bnd h (fun y4 hy4 h => ?_)
   refine Or.inl ⟨_, c_variants_Check _ _ hy4, rfl, ?_⟩
   ((conv=>whnf);repeat((first|apply TT mix|apply sE rfl|apply dG (by kernel_rfl)|fail);(conv=>whnf)))
   refine bnd h (fun y5 hy5 h => ?_)
   refine Or.inl ⟨_, c_eponymlaw01_Is _ _ _ _ hy5, rfl, ?_⟩
   have e := Option.some.inj h; subst e
   ((conv=>whnf);repeat((first|apply TT mix|apply sE rfl|apply dG (by kernel_rfl)|fail);(conv=>whnf)))
   exact And.intro (AV.Le.refl _) rfl
end Go.Proofs.YtclhniadffljdaaDoor
