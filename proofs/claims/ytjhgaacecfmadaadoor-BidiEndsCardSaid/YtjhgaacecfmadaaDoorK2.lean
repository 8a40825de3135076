/- Contracts of functions, walked by their models; printed by a program of ours. No condition. -/
import Derived.Test.YtjhgaacecfmadaaDoorK1
import Derived.Test.YtjhgaacecfmadaaDoorRCheck
import Derived.Test.YtjhgaacecfmadaaDoorProg
import Derived.KernelRfl
namespace Go.Proofs.YtjhgaacecfmadaaDoor
open Go Go.SE
set_option linter.unusedVariables false
set_option linter.unusedSimpArgs false
set_option maxRecDepth 10000
set_option maxHeartbeats 2000000
attribute [local irreducible] Contract iter
theorem c_classes_Check (p_p : T_api_Props) (r : Er) (h : m_classes_Check p_p = some r) : Contract pl 22 [(e_api_Props p_p)] [] (AV.err r) [] := by
  refine contract_of (.t false .z (.t true (.t false .z (.t false (.t false (.t false .z (.t false .z (.t true (.t false (.t false .z (.t false .z (.t false .z (.t false (.t false (.t false .z (.t false .z (.t false (.t false (.t false .z (.t true .z .z)) .z) .z))) .z) .z)))) .z) .z))) .z) .z)) .z)) Tryd.func22 rfl (by kernel_rfl) ?_
  ((conv => whnf); repeat ((first | refine T_seq ?_ | refine T_z mix ?_ | refine T_cut ?_ | refine T_block ?_ | refine T_cond rfl ?_ | refine T_loop ?_ | refine storeEq rfl ?_ | refine drawGo (by kernel_rfl) ?_ | fail); (conv => whnf)))
  refine bnd h (fun x23 h23 h => ?_)
  refine cut_at (fun s1 : Unit => mkF 51 [] []) (fun s1 : Unit => some Er.nil = some r) ?_ ?_
  · intro Kn23 hn23
    ((conv => whnf); repeat ((first | refine T_seq ?_ | refine T_z mix ?_ | refine T_cut ?_ | refine T_block ?_ | refine T_cond rfl ?_ | refine T_loop ?_ | refine storeEq rfl ?_ | refine drawGo (by kernel_rfl) ?_ | fail); (conv => whnf)))
    refine bnd h23 (fun y3 hy3 h23 => ?_)
    refine Or.inl ⟨_, c_classes_columns _ _ hy3, rfl, ?_⟩
    ((conv => whnf); repeat ((first | refine T_seq ?_ | refine T_z mix ?_ | refine T_cut ?_ | refine T_block ?_ | refine T_cond rfl ?_ | refine T_loop ?_ | refine storeEq rfl ?_ | refine drawGo (by kernel_rfl) ?_ | fail); (conv => whnf)))
    refine loop_iter (fun s5 : Int => mkF 51 [(9, (e_L_classes_column y3)), (10, (.int .i64 ((y3.length : Nat) : Int))), (11, (.int .i64 s5))] []) h23 (weak_gen [] rfl rfl storeLe.nil (slotsLe.cons (And.intro rfl (AV.Le.refl _)) (slotsLe.cons (And.intro rfl (AV.Le.refl _)) (slotsLe.cons (And.intro rfl (AV.Le.refl _)) slotsLe.nil)))) ?_
    intro k7 s5 st7 Kn7 hn7 h7_ hs7
    ((conv => whnf); repeat ((first | refine T_seq ?_ | refine T_z mix ?_ | refine T_cut ?_ | refine T_block ?_ | refine T_cond rfl ?_ | refine T_loop ?_ | refine storeEq rfl ?_ | refine drawGo (by kernel_rfl) ?_ | fail); (conv => whnf)))
    refine br_b rfl h7_ (fun c24 h7_ => ?_) (fun c24 h7_ => ?_)
    · ((conv => whnf); repeat ((first | refine T_seq ?_ | refine T_z mix ?_ | refine T_cut ?_ | refine T_block ?_ | refine T_cond rfl ?_ | refine T_loop ?_ | refine storeEq rfl ?_ | refine drawGo (by kernel_rfl) ?_ | fail); (conv => whnf)))
      refine bnd h7_ (fun x25 h25 h7_ => ?_)
      refine cut_at (fun s8 : Unit => mkF 51 [(9, (e_L_classes_column y3)), (10, (.int .i64 ((y3.length : Nat) : Int))), (11, (.int .i64 s5))] []) (fun s8 : Unit => some (.next (IntKind.wrap .i64 (s5 + (1 : Int)))) = some st7) ?_ ?_
      · intro Kn25 hn25
        ((conv => whnf); repeat ((first | refine T_seq ?_ | refine T_z mix ?_ | refine T_cut ?_ | refine T_block ?_ | refine T_cond rfl ?_ | refine T_loop ?_ | refine storeEq rfl ?_ | refine drawGo (by kernel_rfl) ?_ | fail); (conv => whnf)))
        refine grd2 rfl rfl h25 (fun h25 => ?_)
        ((conv => whnf); repeat ((first | refine T_seq ?_ | refine T_z mix ?_ | refine T_cut ?_ | refine T_block ?_ | refine T_cond rfl ?_ | refine T_loop ?_ | refine storeEq rfl ?_ | refine drawGo (by kernel_rfl) ?_ | fail); (conv => whnf)))
        refine bnd h25 (fun y10 hy10 h25 => ?_)
        refine Or.inl ⟨_, c_ranges_Check _ _ hy10, rfl, ?_⟩
        ((conv => whnf); repeat ((first | refine T_seq ?_ | refine T_z mix ?_ | refine T_cut ?_ | refine T_block ?_ | refine T_cond rfl ?_ | refine T_loop ?_ | refine storeEq rfl ?_ | refine drawGo (by kernel_rfl) ?_ | fail); (conv => whnf)))
        refine br_b rfl h25 (fun c26 h25 => ?_) (fun c26 h25 => ?_)
        · have e := Option.some.inj h25; subst e
          have e := Option.some.inj h7_; subst e
          have e := done_out hs7; subst e
          have e := Option.some.inj h; subst e
          ((conv => whnf); repeat ((first | refine T_seq ?_ | refine T_z mix ?_ | refine T_cut ?_ | refine T_block ?_ | refine T_cond rfl ?_ | refine T_loop ?_ | refine storeEq rfl ?_ | refine drawGo (by kernel_rfl) ?_ | fail); (conv => whnf)))
          exact And.intro (AV.Le.refl _) rfl
        · ((conv => whnf); repeat ((first | refine T_seq ?_ | refine T_z mix ?_ | refine T_cut ?_ | refine T_block ?_ | refine T_cond rfl ?_ | refine T_loop ?_ | refine storeEq rfl ?_ | refine drawGo (by kernel_rfl) ?_ | fail); (conv => whnf)))
          refine bnd h25 (fun x14 hx14 h25 => ?_)
          refine loop_iter (fun s12 : Int => mkF 51 [(4, (.mp 0 0 0)), (9, (e_L_classes_column y3)), (10, (.int .i64 ((y3.length : Nat) : Int))), (11, (.int .i64 s5)), (22, (e_L_api_Range ((y3.getD (s5.toNat) d_classes_column).f_l))), (23, (.int .i64 (((y3.getD (s5.toNat) d_classes_column).f_l.length : Nat) : Int))), (24, (.int .i64 s12))] [some ⟨2, 87, (.vals [(e_classes_column (y3.getD (s5.toNat) d_classes_column))]), false, false⟩]) hx14 (weak_gen [0] rfl rfl (storeLe.cons rfl (objLe.mk (by intro hf; first | exact hf | rfl) (by intro hf; first | exact hf | rfl) (rowLe_vals (valsLe.cons (cellsLe_refl rfl) valsLe.nil))) storeLe.nil) (slotsLe.cons (And.intro rfl (AV.Le.refl _)) (slotsLe.cons (And.intro rfl (AV.Le.refl _)) (slotsLe.cons (And.intro rfl (AV.Le.refl _)) (slotsLe.cons (And.intro rfl (AV.Le.refl _)) (slotsLe.cons (And.intro rfl (AV.Le.refl _)) (slotsLe.cons (And.intro rfl (AV.Le.refl _)) (slotsLe.cons (And.intro rfl (AV.Le.refl _)) slotsLe.nil)))))))) ?_
          intro k14 s12 st14 Kn14 hn14 h14 hs14
          ((conv => whnf); repeat ((first | refine T_seq ?_ | refine T_z mix ?_ | refine T_cut ?_ | refine T_block ?_ | refine T_cond rfl ?_ | refine T_loop ?_ | refine storeEq rfl ?_ | refine drawGo (by kernel_rfl) ?_ | fail); (conv => whnf)))
          refine br_b rfl h14 (fun c27 h14 => ?_) (fun c27 h14 => ?_)
          · ((conv => whnf); repeat ((first | refine T_seq ?_ | refine T_z mix ?_ | refine T_cut ?_ | refine T_block ?_ | refine T_cond rfl ?_ | refine T_loop ?_ | refine storeEq rfl ?_ | refine drawGo (by kernel_rfl) ?_ | fail); (conv => whnf)))
            refine grd2 rfl rfl h14 (fun h14 => ?_)
            ((conv => whnf); repeat ((first | refine T_seq ?_ | refine T_z mix ?_ | refine T_cut ?_ | refine T_block ?_ | refine T_cond rfl ?_ | refine T_loop ?_ | refine storeEq rfl ?_ | refine drawGo (by kernel_rfl) ?_ | fail); (conv => whnf)))
            refine bnd h14 (fun x28 h28 h14 => ?_)
            refine cut_at (fun s15 : Bool => mkF 51 [(4, (.mp 0 0 0)), (6, (.int .i64 s12)), (9, (e_L_classes_column y3)), (10, (.int .i64 ((y3.length : Nat) : Int))), (11, (.int .i64 s5)), (22, (e_L_api_Range ((y3.getD (s5.toNat) d_classes_column).f_l))), (23, (.int .i64 (((y3.getD (s5.toNat) d_classes_column).f_l.length : Nat) : Int))), (24, (.int .i64 s12)), (43, (.bool s15))] [some ⟨2, 87, (.vals [(e_classes_column (y3.getD (s5.toNat) d_classes_column))]), false, false⟩]) (fun s15 : Bool => m_classes_Check_K16 s12 s15 = some st14) ?_ ?_
            · intro Kn28 hn28
              ((conv => whnf); repeat ((first | refine T_seq ?_ | refine T_z mix ?_ | refine T_cut ?_ | refine T_block ?_ | refine T_cond rfl ?_ | refine T_loop ?_ | refine storeEq rfl ?_ | refine drawGo (by kernel_rfl) ?_ | fail); (conv => whnf)))
              refine br_b rfl h28 (fun c29 h28 => ?_) (fun c29 h28 => ?_)
              · ((conv => whnf); repeat ((first | refine T_seq ?_ | refine T_z mix ?_ | refine T_cut ?_ | refine T_block ?_ | refine T_cond rfl ?_ | refine T_loop ?_ | refine storeEq rfl ?_ | refine drawGo (by kernel_rfl) ?_ | fail); (conv => whnf)))
                refine br_b rfl h28 (fun c30 h28 => ?_) (fun c30 h28 => ?_)
                · have e := Option.some.inj h28; subst e
                  ((conv => whnf); repeat ((first | refine T_seq ?_ | refine T_z mix ?_ | refine T_cut ?_ | refine T_block ?_ | refine T_cond rfl ?_ | refine T_loop ?_ | refine storeEq rfl ?_ | refine drawGo (by kernel_rfl) ?_ | fail); (conv => whnf)))
                  exact hn28 _ true h14 (weak_gen [0] rfl rfl (storeLe.cons rfl (objLe.mk (by intro hf; first | exact hf | rfl) (by intro hf; first | exact hf | rfl) (rowLe_vals (valsLe.cons (cellsLe_refl rfl) valsLe.nil))) storeLe.nil) (slotsLe.cons (And.intro rfl (AV.Le.refl _)) (slotsLe.cons (And.intro rfl (AV.Le.refl _)) (slotsLe.cons (And.intro rfl (AV.Le.refl _)) (slotsLe.cons (And.intro rfl (AV.Le.refl _)) (slotsLe.cons (And.intro rfl (AV.Le.refl _)) (slotsLe.cons (And.intro rfl (AV.Le.refl _)) (slotsLe.cons (And.intro rfl (AV.Le.refl _)) (slotsLe.cons (And.intro rfl (AV.Le.refl _)) (slotsLe.cons (And.intro rfl (AV.Le.refl _)) slotsLe.nil))))))))))
                · have e := Option.some.inj h28; subst e
                  ((conv => whnf); repeat ((first | refine T_seq ?_ | refine T_z mix ?_ | refine T_cut ?_ | refine T_block ?_ | refine T_cond rfl ?_ | refine T_loop ?_ | refine storeEq rfl ?_ | refine drawGo (by kernel_rfl) ?_ | fail); (conv => whnf)))
                  exact hn28 _ (decide (((y3.getD (s5.toNat) d_classes_column).f_l.getD (s12.toNat) d_api_Range).f_Value > (y3.getD (s5.toNat) d_classes_column).f_most)) h14 (weak_gen [0] rfl rfl (storeLe.cons rfl (objLe.mk (by intro hf; first | exact hf | rfl) (by intro hf; first | exact hf | rfl) (rowLe_vals (valsLe.cons (cellsLe_refl rfl) valsLe.nil))) storeLe.nil) (slotsLe.cons (And.intro rfl (AV.Le.refl _)) (slotsLe.cons (And.intro rfl (AV.Le.refl _)) (slotsLe.cons (And.intro rfl (AV.Le.refl _)) (slotsLe.cons (And.intro rfl (AV.Le.refl _)) (slotsLe.cons (And.intro rfl (AV.Le.refl _)) (slotsLe.cons (And.intro rfl (AV.Le.refl _)) (slotsLe.cons (And.intro rfl (AV.Le.refl _)) (slotsLe.cons (And.intro rfl (AV.Le.refl _)) (slotsLe.cons (And.intro rfl (AV.Le.refl _)) slotsLe.nil))))))))))
              · have e := Option.some.inj h28; subst e
                ((conv => whnf); repeat ((first | refine T_seq ?_ | refine T_z mix ?_ | refine T_cut ?_ | refine T_block ?_ | refine T_cond rfl ?_ | refine T_loop ?_ | refine storeEq rfl ?_ | refine drawGo (by kernel_rfl) ?_ | fail); (conv => whnf)))
                exact hn28 _ false h14 (weak_gen [0] rfl rfl (storeLe.cons rfl (objLe.mk (by intro hf; first | exact hf | rfl) (by intro hf; first | exact hf | rfl) (rowLe_vals (valsLe.cons (cellsLe_refl rfl) valsLe.nil))) storeLe.nil) (slotsLe.cons (And.intro rfl (AV.Le.refl _)) (slotsLe.cons (And.intro rfl (AV.Le.refl _)) (slotsLe.cons (And.intro rfl (AV.Le.refl _)) (slotsLe.cons (And.intro rfl (AV.Le.refl _)) (slotsLe.cons (And.intro rfl (AV.Le.refl _)) (slotsLe.cons (And.intro rfl (AV.Le.refl _)) (slotsLe.cons (And.intro rfl (AV.Le.refl _)) (slotsLe.cons (And.intro rfl (AV.Le.refl _)) (slotsLe.cons (And.intro rfl (AV.Le.refl _)) slotsLe.nil))))))))))
            · clear h14 h28
              intro s15 hc31
              ((conv => whnf); repeat ((first | refine T_seq ?_ | refine T_z mix ?_ | refine T_cut ?_ | refine T_block ?_ | refine T_cond rfl ?_ | refine T_loop ?_ | refine storeEq rfl ?_ | refine drawGo (by kernel_rfl) ?_ | fail); (conv => whnf)))
              refine br_b rfl hc31 (fun c32 hc31 => ?_) (fun c32 hc31 => ?_)
              · have e := Option.some.inj hc31; subst e
                have e := done_out hs14; subst e
                have e := Option.some.inj h25; subst e
                have e := Option.some.inj h7_; subst e
                have e := done_out hs7; subst e
                have e := Option.some.inj h; subst e
                ((conv => whnf); repeat ((first | refine T_seq ?_ | refine T_z mix ?_ | refine T_cut ?_ | refine T_block ?_ | refine T_cond rfl ?_ | refine T_loop ?_ | refine storeEq rfl ?_ | refine drawGo (by kernel_rfl) ?_ | fail); (conv => whnf)))
                exact And.intro (AV.Le.err_box (AV.Le.refl _)) rfl
              · have e := Option.some.inj hc31; subst e
                ((conv => whnf); repeat ((first | refine T_seq ?_ | refine T_z mix ?_ | refine T_cut ?_ | refine T_block ?_ | refine T_cond rfl ?_ | refine T_loop ?_ | refine storeEq rfl ?_ | refine drawGo (by kernel_rfl) ?_ | fail); (conv => whnf)))
                exact hn14 _ (IntKind.wrap .i64 (s12 + (1 : Int))) hs14 (weak_gen [0] rfl rfl (storeLe.cons rfl (objLe.mk (by intro hf; first | exact hf | rfl) (by intro hf; first | exact hf | rfl) (rowLe_vals (valsLe.cons (cellsLe_refl rfl) valsLe.nil))) storeLe.nil) (slotsLe.cons (And.intro rfl (AV.Le.refl _)) (slotsLe.cons (And.intro rfl (AV.Le.refl _)) (slotsLe.cons (And.intro rfl (AV.Le.refl _)) (slotsLe.cons (And.intro rfl (AV.Le.refl _)) (slotsLe.cons (And.intro rfl (AV.Le.refl _)) (slotsLe.cons (And.intro rfl (AV.Le.refl _)) (slotsLe.cons (And.intro rfl (AV.Le.refl _)) slotsLe.nil))))))))
          · have e := Option.some.inj h14; subst e
            have e := done_out hs14; subst e
            have e := Option.some.inj h25; subst e
            ((conv => whnf); repeat ((first | refine T_seq ?_ | refine T_z mix ?_ | refine T_cut ?_ | refine T_block ?_ | refine T_cond rfl ?_ | refine T_loop ?_ | refine storeEq rfl ?_ | refine drawGo (by kernel_rfl) ?_ | fail); (conv => whnf)))
            exact hn25 _ () h7_ (weak_gen [] rfl rfl storeLe.nil (slotsLe.cons (And.intro rfl (AV.Le.refl _)) (slotsLe.cons (And.intro rfl (AV.Le.refl _)) (slotsLe.cons (And.intro rfl (AV.Le.refl _)) slotsLe.nil))))
      · clear h7_ h25
        intro s8 hc33
        have e := Option.some.inj hc33; subst e
        ((conv => whnf); repeat ((first | refine T_seq ?_ | refine T_z mix ?_ | refine T_cut ?_ | refine T_block ?_ | refine T_cond rfl ?_ | refine T_loop ?_ | refine storeEq rfl ?_ | refine drawGo (by kernel_rfl) ?_ | fail); (conv => whnf)))
        exact hn7 _ (IntKind.wrap .i64 (s5 + (1 : Int))) hs7 (weak_gen [] rfl rfl storeLe.nil (slotsLe.cons (And.intro rfl (AV.Le.refl _)) (slotsLe.cons (And.intro rfl (AV.Le.refl _)) (slotsLe.cons (And.intro rfl (AV.Le.refl _)) slotsLe.nil))))
    · have e := Option.some.inj h7_; subst e
      have e := done_out hs7; subst e
      ((conv => whnf); repeat ((first | refine T_seq ?_ | refine T_z mix ?_ | refine T_cut ?_ | refine T_block ?_ | refine T_cond rfl ?_ | refine T_loop ?_ | refine storeEq rfl ?_ | refine drawGo (by kernel_rfl) ?_ | fail); (conv => whnf)))
      exact hn23 _ () h (weak_gen [] rfl rfl storeLe.nil slotsLe.nil)
  · clear h h23
    intro s1 hc34
    have e := Option.some.inj hc34; subst e
    ((conv => whnf); repeat ((first | refine T_seq ?_ | refine T_z mix ?_ | refine T_cut ?_ | refine T_block ?_ | refine T_cond rfl ?_ | refine T_loop ?_ | refine storeEq rfl ?_ | refine drawGo (by kernel_rfl) ?_ | fail); (conv => whnf)))
    exact And.intro (AV.Le.err_nil) rfl
theorem c_bidi_Label (p_p : T_api_Props) (p_l : (List Int)) (r : Er) (h : m_bidi_Label p_p p_l = some r) : Contract pl 26 [(e_api_Props p_p), (e_L_i32 p_l)] [] (AV.err r) [] := by
  refine contract_of .z Tryd.func26 rfl (by kernel_rfl) ?_
  ((conv => whnf); repeat ((first | refine T_seq ?_ | refine T_z mix ?_ | refine T_cut ?_ | refine T_block ?_ | refine T_cond rfl ?_ | refine T_loop ?_ | refine storeEq rfl ?_ | refine drawGo (by kernel_rfl) ?_ | fail); (conv => whnf)))
  refine bnd h (fun y1 hy1 h => ?_)
  refine Or.inl ⟨_, c_bidi_Broken _ _ _ hy1, rfl, ?_⟩
  ((conv => whnf); repeat ((first | refine T_seq ?_ | refine T_z mix ?_ | refine T_cut ?_ | refine T_block ?_ | refine T_cond rfl ?_ | refine T_loop ?_ | refine storeEq rfl ?_ | refine drawGo (by kernel_rfl) ?_ | fail); (conv => whnf)))
  refine br_b rfl h (fun c2 h => ?_) (fun c2 h => ?_)
  · have e := Option.some.inj h; subst e
    ((conv => whnf); repeat ((first | refine T_seq ?_ | refine T_z mix ?_ | refine T_cut ?_ | refine T_block ?_ | refine T_cond rfl ?_ | refine T_loop ?_ | refine storeEq rfl ?_ | refine drawGo (by kernel_rfl) ?_ | fail); (conv => whnf)))
    exact And.intro (AV.Le.err_box (AV.Le.refl _)) rfl
  · have e := Option.some.inj h; subst e
    ((conv => whnf); repeat ((first | refine T_seq ?_ | refine T_z mix ?_ | refine T_cut ?_ | refine T_block ?_ | refine T_cond rfl ?_ | refine T_loop ?_ | refine storeEq rfl ?_ | refine drawGo (by kernel_rfl) ?_ | fail); (conv => whnf)))
    exact And.intro (AV.Le.err_nil) rfl
theorem c_bidi_Right (p_p : T_api_Props) (p_l : (List Int)) (r : Bool) (h : m_bidi_Right p_p p_l = some r) : Contract pl 28 [(e_api_Props p_p), (e_L_i32 p_l)] [] (AV.bool r) [] := by
  refine contract_of .z Tryd.func28 rfl (by kernel_rfl) ?_
  ((conv => whnf); repeat ((first | refine T_seq ?_ | refine T_z mix ?_ | refine T_cut ?_ | refine T_block ?_ | refine T_cond rfl ?_ | refine T_loop ?_ | refine storeEq rfl ?_ | refine drawGo (by kernel_rfl) ?_ | fail); (conv => whnf)))
  refine bnd h (fun y1 hy1 h => ?_)
  refine Or.inl ⟨_, c_bidi_row _ _ _ hy1, rfl, ?_⟩
  ((conv => whnf); repeat ((first | refine T_seq ?_ | refine T_z mix ?_ | refine T_cut ?_ | refine T_block ?_ | refine T_cond rfl ?_ | refine T_loop ?_ | refine storeEq rfl ?_ | refine drawGo (by kernel_rfl) ?_ | fail); (conv => whnf)))
  refine bnd h (fun y2 hy2 h => ?_)
  refine Or.inl ⟨_, contract_le (c_bidi_of _ _ hy2) (argsLe.cons (AV.Le.list (by simp; try omega) (fun j hj => by first | rfl | rw [getD_sub hj] | (rw [getD_take hj]; simp) | simp)) argsLe.nil), rfl, ?_⟩
  ((conv => whnf); repeat ((first | refine T_seq ?_ | refine T_z mix ?_ | refine T_cut ?_ | refine T_block ?_ | refine T_cond rfl ?_ | refine T_loop ?_ | refine storeEq rfl ?_ | refine drawGo (by kernel_rfl) ?_ | fail); (conv => whnf)))
  refine bnd h (fun y3 hy3 h => ?_)
  refine Or.inl ⟨_, c_bidi_first _ _ _ _ hy3, rfl, ?_⟩
  have e := Option.some.inj h; subst e
  ((conv => whnf); repeat ((first | refine T_seq ?_ | refine T_z mix ?_ | refine T_cut ?_ | refine T_block ?_ | refine T_cond rfl ?_ | refine T_loop ?_ | refine storeEq rfl ?_ | refine drawGo (by kernel_rfl) ?_ | fail); (conv => whnf)))
  exact And.intro (AV.Le.refl _) rfl
theorem c_eponymlaw09_BidiEnds (p_p : T_api_Props) (p_l : (List Int)) (p_more : (List Int)) (r : Bool) (h : m_eponymlaw09_BidiEnds p_p p_l p_more = some r) : Contract pl 4 [(e_api_Props p_p), (e_L_i32 p_l), (e_L_i32 p_more)] [] (AV.bool r) [] := by
  refine contract_of (.t false .z (.t false .z (.t false (.t true .z .z) (.t false .z (.t false .z (.t false .z (.t false .z (.t true (.t false (.t false (.t false (.t true .z .z) .z) .z) .z) (.t false .z (.t false .z (.t false (.t true .z .z) (.t false .z (.t true .z .z))))))))))))) Tryd.func4 rfl (by kernel_rfl) ?_
  ((conv => whnf); repeat ((first | refine T_seq ?_ | refine T_z mix ?_ | refine T_cut ?_ | refine T_block ?_ | refine T_cond rfl ?_ | refine T_loop ?_ | refine storeEq rfl ?_ | refine drawGo (by kernel_rfl) ?_ | fail); (conv => whnf)))
  refine bnd h (fun y1 hy1 h => ?_)
  refine Or.inl ⟨_, c_eponymlaw09_awake  _ hy1, rfl, ?_⟩
  ((conv => whnf); repeat ((first | refine T_seq ?_ | refine T_z mix ?_ | refine T_cut ?_ | refine T_block ?_ | refine T_cond rfl ?_ | refine T_loop ?_ | refine storeEq rfl ?_ | refine drawGo (by kernel_rfl) ?_ | fail); (conv => whnf)))
  refine br_b rfl h (fun c35 h => ?_) (fun c35 h => ?_)
  · have e := Option.some.inj h; subst e
    ((conv => whnf); repeat ((first | refine T_seq ?_ | refine T_z mix ?_ | refine T_cut ?_ | refine T_block ?_ | refine T_cond rfl ?_ | refine T_loop ?_ | refine storeEq rfl ?_ | refine drawGo (by kernel_rfl) ?_ | fail); (conv => whnf)))
    exact And.intro (AV.Le.refl _) rfl
  · ((conv => whnf); repeat ((first | refine T_seq ?_ | refine T_z mix ?_ | refine T_cut ?_ | refine T_block ?_ | refine T_cond rfl ?_ | refine T_loop ?_ | refine storeEq rfl ?_ | refine drawGo (by kernel_rfl) ?_ | fail); (conv => whnf)))
    refine bnd h (fun x36 h36 h => ?_)
    refine cut_at (fun s2 : Bool => mkF 145 [(1, (e_L_i32 p_l)), (2, (e_L_i32 p_more)), (3, (.mp 0 0 0)), (32, (.bool s2))] [some ⟨11, 24, (.vals [(e_api_Props p_p)]), false, false⟩]) (fun s2 : Bool => m_eponymlaw09_BidiEnds_K3 p_p p_l p_more s2 = some r) ?_ ?_
    · intro Kn36 hn36
      ((conv => whnf); repeat ((first | refine T_seq ?_ | refine T_z mix ?_ | refine T_cut ?_ | refine T_block ?_ | refine T_cond rfl ?_ | refine T_loop ?_ | refine storeEq rfl ?_ | refine drawGo (by kernel_rfl) ?_ | fail); (conv => whnf)))
      refine bnd h36 (fun y33 hy33 h36 => ?_)
      refine Or.inl ⟨_, c_eponymlaw07_Great _ _ hy33, rfl, ?_⟩
      ((conv => whnf); repeat ((first | refine T_seq ?_ | refine T_z mix ?_ | refine T_cut ?_ | refine T_block ?_ | refine T_cond rfl ?_ | refine T_loop ?_ | refine storeEq rfl ?_ | refine drawGo (by kernel_rfl) ?_ | fail); (conv => whnf)))
      refine br_b rfl h36 (fun c37 h36 => ?_) (fun c37 h36 => ?_)
      · have e := Option.some.inj h36; subst e
        ((conv => whnf); repeat ((first | refine T_seq ?_ | refine T_z mix ?_ | refine T_cut ?_ | refine T_block ?_ | refine T_cond rfl ?_ | refine T_loop ?_ | refine storeEq rfl ?_ | refine drawGo (by kernel_rfl) ?_ | fail); (conv => whnf)))
        exact hn36 _ true h (weak_gen [0] rfl rfl (storeLe.cons rfl (objLe.mk (by intro hf; first | exact hf | rfl) (by intro hf; first | exact hf | rfl) (rowLe_vals (valsLe.cons (cellsLe_refl rfl) valsLe.nil))) storeLe.nil) (slotsLe.cons (And.intro rfl (AV.Le.refl _)) (slotsLe.cons (And.intro rfl (AV.Le.refl _)) (slotsLe.cons (And.intro rfl (AV.Le.refl _)) (slotsLe.cons (And.intro rfl (AV.Le.refl _)) slotsLe.nil)))))
      · ((conv => whnf); repeat ((first | refine T_seq ?_ | refine T_z mix ?_ | refine T_cut ?_ | refine T_block ?_ | refine T_cond rfl ?_ | refine T_loop ?_ | refine storeEq rfl ?_ | refine drawGo (by kernel_rfl) ?_ | fail); (conv => whnf)))
        refine br_b rfl h36 (fun c38 h36 => ?_) (fun c38 h36 => ?_)
        · have e := Option.some.inj h36; subst e
          ((conv => whnf); repeat ((first | refine T_seq ?_ | refine T_z mix ?_ | refine T_cut ?_ | refine T_block ?_ | refine T_cond rfl ?_ | refine T_loop ?_ | refine storeEq rfl ?_ | refine drawGo (by kernel_rfl) ?_ | fail); (conv => whnf)))
          exact hn36 _ true h (weak_gen [0] rfl rfl (storeLe.cons rfl (objLe.mk (by intro hf; first | exact hf | rfl) (by intro hf; first | exact hf | rfl) (rowLe_vals (valsLe.cons (cellsLe_refl rfl) valsLe.nil))) storeLe.nil) (slotsLe.cons (And.intro rfl (AV.Le.refl _)) (slotsLe.cons (And.intro rfl (AV.Le.refl _)) (slotsLe.cons (And.intro rfl (AV.Le.refl _)) (slotsLe.cons (And.intro rfl (AV.Le.refl _)) slotsLe.nil)))))
        · ((conv => whnf); repeat ((first | refine T_seq ?_ | refine T_z mix ?_ | refine T_cut ?_ | refine T_block ?_ | refine T_cond rfl ?_ | refine T_loop ?_ | refine storeEq rfl ?_ | refine drawGo (by kernel_rfl) ?_ | fail); (conv => whnf)))
          refine br_b rfl h36 (fun c39 h36 => ?_) (fun c39 h36 => ?_)
          · have e := Option.some.inj h36; subst e
            ((conv => whnf); repeat ((first | refine T_seq ?_ | refine T_z mix ?_ | refine T_cut ?_ | refine T_block ?_ | refine T_cond rfl ?_ | refine T_loop ?_ | refine storeEq rfl ?_ | refine drawGo (by kernel_rfl) ?_ | fail); (conv => whnf)))
            exact hn36 _ true h (weak_gen [0] rfl rfl (storeLe.cons rfl (objLe.mk (by intro hf; first | exact hf | rfl) (by intro hf; first | exact hf | rfl) (rowLe_vals (valsLe.cons (cellsLe_refl rfl) valsLe.nil))) storeLe.nil) (slotsLe.cons (And.intro rfl (AV.Le.refl _)) (slotsLe.cons (And.intro rfl (AV.Le.refl _)) (slotsLe.cons (And.intro rfl (AV.Le.refl _)) (slotsLe.cons (And.intro rfl (AV.Le.refl _)) slotsLe.nil)))))
          · ((conv => whnf); repeat ((first | refine T_seq ?_ | refine T_z mix ?_ | refine T_cut ?_ | refine T_block ?_ | refine T_cond rfl ?_ | refine T_loop ?_ | refine storeEq rfl ?_ | refine drawGo (by kernel_rfl) ?_ | fail); (conv => whnf)))
            refine bnd h36 (fun y34 hy34 h36 => ?_)
            refine Or.inl ⟨_, c_classes_Check _ _ hy34, rfl, ?_⟩
            have e := Option.some.inj h36; subst e
            ((conv => whnf); repeat ((first | refine T_seq ?_ | refine T_z mix ?_ | refine T_cut ?_ | refine T_block ?_ | refine T_cond rfl ?_ | refine T_loop ?_ | refine storeEq rfl ?_ | refine drawGo (by kernel_rfl) ?_ | fail); (conv => whnf)))
            exact hn36 _ (!y34.isNil) h (weak_gen [0] rfl rfl (storeLe.cons rfl (objLe.mk (by intro hf; first | exact hf | rfl) (by intro hf; first | exact hf | rfl) (rowLe_vals (valsLe.cons (cellsLe_refl rfl) valsLe.nil))) storeLe.nil) (slotsLe.cons (And.intro rfl (AV.Le.refl _)) (slotsLe.cons (And.intro rfl (AV.Le.refl _)) (slotsLe.cons (And.intro rfl (AV.Le.refl _)) (slotsLe.cons (And.intro rfl (AV.Le.refl _)) slotsLe.nil)))))
    · clear h h36
      intro s2 hc40
      ((conv => whnf); repeat ((first | refine T_seq ?_ | refine T_z mix ?_ | refine T_cut ?_ | refine T_block ?_ | refine T_cond rfl ?_ | refine T_loop ?_ | refine storeEq rfl ?_ | refine drawGo (by kernel_rfl) ?_ | fail); (conv => whnf)))
      refine br_b rfl hc40 (fun c41 hc40 => ?_) (fun c41 hc40 => ?_)
      · have e := Option.some.inj hc40; subst e
        ((conv => whnf); repeat ((first | refine T_seq ?_ | refine T_z mix ?_ | refine T_cut ?_ | refine T_block ?_ | refine T_cond rfl ?_ | refine T_loop ?_ | refine storeEq rfl ?_ | refine drawGo (by kernel_rfl) ?_ | fail); (conv => whnf)))
        exact And.intro (AV.Le.refl _) rfl
      · ((conv => whnf); repeat ((first | refine T_seq ?_ | refine T_z mix ?_ | refine T_cut ?_ | refine T_block ?_ | refine T_cond rfl ?_ | refine T_loop ?_ | refine storeEq rfl ?_ | refine drawGo (by kernel_rfl) ?_ | fail); (conv => whnf)))
        refine bnd hc40 (fun y4 hy4 hc40 => ?_)
        refine Or.inl ⟨_, c_bidi_Broken _ _ _ hy4, rfl, ?_⟩
        ((conv => whnf); repeat ((first | refine T_seq ?_ | refine T_z mix ?_ | refine T_cut ?_ | refine T_block ?_ | refine T_cond rfl ?_ | refine T_loop ?_ | refine storeEq rfl ?_ | refine drawGo (by kernel_rfl) ?_ | fail); (conv => whnf)))
        refine br_b rfl hc40 (fun c42 hc40 => ?_) (fun c42 hc40 => ?_)
        · ((conv => whnf); repeat ((first | refine T_seq ?_ | refine T_z mix ?_ | refine T_cut ?_ | refine T_block ?_ | refine T_cond rfl ?_ | refine T_loop ?_ | refine storeEq rfl ?_ | refine drawGo (by kernel_rfl) ?_ | fail); (conv => whnf)))
          refine bnd hc40 (fun y5 hy5 hc40 => ?_)
          refine Or.inl ⟨_, c_bidi_Label _ _ _ hy5, rfl, ?_⟩
          have e := Option.some.inj hc40; subst e
          ((conv => whnf); repeat ((first | refine T_seq ?_ | refine T_z mix ?_ | refine T_cut ?_ | refine T_block ?_ | refine T_cond rfl ?_ | refine T_loop ?_ | refine storeEq rfl ?_ | refine drawGo (by kernel_rfl) ?_ | fail); (conv => whnf)))
          exact And.intro (AV.Le.refl _) rfl
        · ((conv => whnf); repeat ((first | refine T_seq ?_ | refine T_z mix ?_ | refine T_cut ?_ | refine T_block ?_ | refine T_cond rfl ?_ | refine T_loop ?_ | refine storeEq rfl ?_ | refine drawGo (by kernel_rfl) ?_ | fail); (conv => whnf)))
          refine br_b rfl hc40 (fun c43 hc40 => ?_) (fun c43 hc40 => ?_)
          · have e := Option.some.inj hc40; subst e
            ((conv => whnf); repeat ((first | refine T_seq ?_ | refine T_z mix ?_ | refine T_cut ?_ | refine T_block ?_ | refine T_cond rfl ?_ | refine T_loop ?_ | refine storeEq rfl ?_ | refine drawGo (by kernel_rfl) ?_ | fail); (conv => whnf)))
            exact And.intro (AV.Le.refl _) rfl
          · ((conv => whnf); repeat ((first | refine T_seq ?_ | refine T_z mix ?_ | refine T_cut ?_ | refine T_block ?_ | refine T_cond rfl ?_ | refine T_loop ?_ | refine storeEq rfl ?_ | refine drawGo (by kernel_rfl) ?_ | fail); (conv => whnf)))
            refine bnd hc40 (fun x44 h44 hc40 => ?_)
            refine cut_at (fun s6 : Int => mkF 145 [(1, (e_L_i32 p_l)), (2, (e_L_i32 p_more)), (3, (.mp 0 0 0)), (9, (.int .i64 s6))] [some ⟨11, 24, (.vals [(e_api_Props p_p)]), false, false⟩]) (fun s6 : Int => m_eponymlaw09_BidiEnds_K7 p_p p_l p_more s6 = some r) ?_ ?_
            · intro Kn44 hn44
              ((conv => whnf); repeat ((first | refine T_seq ?_ | refine T_z mix ?_ | refine T_cut ?_ | refine T_block ?_ | refine T_cond rfl ?_ | refine T_loop ?_ | refine storeEq rfl ?_ | refine drawGo (by kernel_rfl) ?_ | fail); (conv => whnf)))
              refine loop_iter (fun s26 : Int => mkF 145 [(1, (e_L_i32 p_l)), (2, (e_L_i32 p_more)), (3, (.mp 0 0 0)), (9, (.int .i64 s26))] [some ⟨11, 24, (.vals [(e_api_Props p_p)]), false, false⟩]) h44 (weak_gen [0] rfl rfl (storeLe.cons rfl (objLe.mk (by intro hf; first | exact hf | rfl) (by intro hf; first | exact hf | rfl) (rowLe_vals (valsLe.cons (cellsLe_refl rfl) valsLe.nil))) storeLe.nil) (slotsLe.cons (And.intro rfl (AV.Le.refl _)) (slotsLe.cons (And.intro rfl (AV.Le.refl _)) (slotsLe.cons (And.intro rfl (AV.Le.refl _)) (slotsLe.cons (And.intro rfl (AV.Le.refl _)) slotsLe.nil))))) ?_
              intro k28 s26 st28 Kn28 hn28 h28_ hs28
              ((conv => whnf); repeat ((first | refine T_seq ?_ | refine T_z mix ?_ | refine T_cut ?_ | refine T_block ?_ | refine T_cond rfl ?_ | refine T_loop ?_ | refine storeEq rfl ?_ | refine drawGo (by kernel_rfl) ?_ | fail); (conv => whnf)))
              refine bnd h28_ (fun x45 h45 h28_ => ?_)
              refine cut_at (fun s29 : Bool => mkF 145 [(1, (e_L_i32 p_l)), (2, (e_L_i32 p_more)), (3, (.mp 0 0 0)), (9, (.int .i64 s26)), (61, (.bool s29))] [some ⟨11, 24, (.vals [(e_api_Props p_p)]), false, false⟩]) (fun s29 : Bool => m_eponymlaw09_BidiEnds_K30 s26 s29 = some st28) ?_ ?_
              · intro Kn45 hn45
                ((conv => whnf); repeat ((first | refine T_seq ?_ | refine T_z mix ?_ | refine T_cut ?_ | refine T_block ?_ | refine T_cond rfl ?_ | refine T_loop ?_ | refine storeEq rfl ?_ | refine drawGo (by kernel_rfl) ?_ | fail); (conv => whnf)))
                refine br_b rfl h45 (fun c46 h45 => ?_) (fun c46 h45 => ?_)
                · ((conv => whnf); repeat ((first | refine T_seq ?_ | refine T_z mix ?_ | refine T_cut ?_ | refine T_block ?_ | refine T_cond rfl ?_ | refine T_loop ?_ | refine storeEq rfl ?_ | refine drawGo (by kernel_rfl) ?_ | fail); (conv => whnf)))
                  refine grd2 rfl rfl h45 (fun h45 => ?_)
                  ((conv => whnf); repeat ((first | refine T_seq ?_ | refine T_z mix ?_ | refine T_cut ?_ | refine T_block ?_ | refine T_cond rfl ?_ | refine T_loop ?_ | refine storeEq rfl ?_ | refine drawGo (by kernel_rfl) ?_ | fail); (conv => whnf)))
                  refine bnd h45 (fun y31 hy31 h45 => ?_)
                  refine Or.inl ⟨_, c_classes_Direction _ _ _ hy31, rfl, ?_⟩
                  have e := Option.some.inj h45; subst e
                  ((conv => whnf); repeat ((first | refine T_seq ?_ | refine T_z mix ?_ | refine T_cut ?_ | refine T_block ?_ | refine T_cond rfl ?_ | refine T_loop ?_ | refine storeEq rfl ?_ | refine drawGo (by kernel_rfl) ?_ | fail); (conv => whnf)))
                  exact hn45 _ (y31 == (10 : Int)) h28_ (weak_gen [0] rfl rfl (storeLe.cons rfl (objLe.mk (by intro hf; first | exact hf | rfl) (by intro hf; first | exact hf | rfl) (rowLe_vals (valsLe.cons (cellsLe_refl rfl) valsLe.nil))) storeLe.nil) (slotsLe.cons (And.intro rfl (AV.Le.refl _)) (slotsLe.cons (And.intro rfl (AV.Le.refl _)) (slotsLe.cons (And.intro rfl (AV.Le.refl _)) (slotsLe.cons (And.intro rfl (AV.Le.refl _)) (slotsLe.cons (And.intro rfl (AV.Le.refl _)) slotsLe.nil))))))
                · have e := Option.some.inj h45; subst e
                  ((conv => whnf); repeat ((first | refine T_seq ?_ | refine T_z mix ?_ | refine T_cut ?_ | refine T_block ?_ | refine T_cond rfl ?_ | refine T_loop ?_ | refine storeEq rfl ?_ | refine drawGo (by kernel_rfl) ?_ | fail); (conv => whnf)))
                  exact hn45 _ false h28_ (weak_gen [0] rfl rfl (storeLe.cons rfl (objLe.mk (by intro hf; first | exact hf | rfl) (by intro hf; first | exact hf | rfl) (rowLe_vals (valsLe.cons (cellsLe_refl rfl) valsLe.nil))) storeLe.nil) (slotsLe.cons (And.intro rfl (AV.Le.refl _)) (slotsLe.cons (And.intro rfl (AV.Le.refl _)) (slotsLe.cons (And.intro rfl (AV.Le.refl _)) (slotsLe.cons (And.intro rfl (AV.Le.refl _)) (slotsLe.cons (And.intro rfl (AV.Le.refl _)) slotsLe.nil))))))
              · clear h28_ h45
                intro s29 hc47
                ((conv => whnf); repeat ((first | refine T_seq ?_ | refine T_z mix ?_ | refine T_cut ?_ | refine T_block ?_ | refine T_cond rfl ?_ | refine T_loop ?_ | refine storeEq rfl ?_ | refine drawGo (by kernel_rfl) ?_ | fail); (conv => whnf)))
                refine br_b rfl hc47 (fun c48 hc47 => ?_) (fun c48 hc47 => ?_)
                · have e := Option.some.inj hc47; subst e
                  ((conv => whnf); repeat ((first | refine T_seq ?_ | refine T_z mix ?_ | refine T_cut ?_ | refine T_block ?_ | refine T_cond rfl ?_ | refine T_loop ?_ | refine storeEq rfl ?_ | refine drawGo (by kernel_rfl) ?_ | fail); (conv => whnf)))
                  exact hn28 _ (IntKind.wrap .i64 (s26 - (1 : Int))) hs28 (weak_gen [0] rfl rfl (storeLe.cons rfl (objLe.mk (by intro hf; first | exact hf | rfl) (by intro hf; first | exact hf | rfl) (rowLe_vals (valsLe.cons (cellsLe_refl rfl) valsLe.nil))) storeLe.nil) (slotsLe.cons (And.intro rfl (AV.Le.refl _)) (slotsLe.cons (And.intro rfl (AV.Le.refl _)) (slotsLe.cons (And.intro rfl (AV.Le.refl _)) (slotsLe.cons (And.intro rfl (AV.Le.refl _)) slotsLe.nil)))))
                · have e := Option.some.inj hc47; subst e
                  have e := done_out hs28; subst e
                  ((conv => whnf); repeat ((first | refine T_seq ?_ | refine T_z mix ?_ | refine T_cut ?_ | refine T_block ?_ | refine T_cond rfl ?_ | refine T_loop ?_ | refine storeEq rfl ?_ | refine drawGo (by kernel_rfl) ?_ | fail); (conv => whnf)))
                  exact hn44 _ s26 hc40 (weak_gen [0] rfl rfl (storeLe.cons rfl (objLe.mk (by intro hf; first | exact hf | rfl) (by intro hf; first | exact hf | rfl) (rowLe_vals (valsLe.cons (cellsLe_refl rfl) valsLe.nil))) storeLe.nil) (slotsLe.cons (And.intro rfl (AV.Le.refl _)) (slotsLe.cons (And.intro rfl (AV.Le.refl _)) (slotsLe.cons (And.intro rfl (AV.Le.refl _)) (slotsLe.cons (And.intro rfl (AV.Le.refl _)) slotsLe.nil)))))
            · clear hc40 h44
              intro s6 hc49
              ((conv => whnf); repeat ((first | refine T_seq ?_ | refine T_z mix ?_ | refine T_cut ?_ | refine T_block ?_ | refine T_cond rfl ?_ | refine T_loop ?_ | refine storeEq rfl ?_ | refine drawGo (by kernel_rfl) ?_ | fail); (conv => whnf)))
              refine grd2 rfl rfl hc49 (fun hc49 => ?_)
              ((conv => whnf); repeat ((first | refine T_seq ?_ | refine T_z mix ?_ | refine T_cut ?_ | refine T_block ?_ | refine T_cond rfl ?_ | refine T_loop ?_ | refine storeEq rfl ?_ | refine drawGo (by kernel_rfl) ?_ | fail); (conv => whnf)))
              refine bnd hc49 (fun y8 hy8 hc49 => ?_)
              refine Or.inl ⟨_, c_classes_Direction _ _ _ hy8, rfl, ?_⟩
              ((conv => whnf); repeat ((first | refine T_seq ?_ | refine T_z mix ?_ | refine T_cut ?_ | refine T_block ?_ | refine T_cond rfl ?_ | refine T_loop ?_ | refine storeEq rfl ?_ | refine drawGo (by kernel_rfl) ?_ | fail); (conv => whnf)))
              refine grd2 rfl rfl hc49 (fun hc49 => ?_)
              ((conv => whnf); repeat ((first | refine T_seq ?_ | refine T_z mix ?_ | refine T_cut ?_ | refine T_block ?_ | refine T_cond rfl ?_ | refine T_loop ?_ | refine storeEq rfl ?_ | refine drawGo (by kernel_rfl) ?_ | fail); (conv => whnf)))
              refine bnd hc49 (fun y9 hy9 hc49 => ?_)
              refine Or.inl ⟨_, c_classes_Direction _ _ _ hy9, rfl, ?_⟩
              ((conv => whnf); repeat ((first | refine T_seq ?_ | refine T_z mix ?_ | refine T_cut ?_ | refine T_block ?_ | refine T_cond rfl ?_ | refine T_loop ?_ | refine storeEq rfl ?_ | refine drawGo (by kernel_rfl) ?_ | fail); (conv => whnf)))
              refine bnd hc49 (fun x50 h50 hc49 => ?_)
              refine cut_at (fun s10 : Bool => mkF 145 [(1, (e_L_i32 p_l)), (2, (e_L_i32 p_more)), (3, (.mp 0 0 0)), (104, (.bool s10))] [some ⟨11, 24, (.vals [(e_api_Props p_p)]), false, false⟩]) (fun s10 : Bool => m_eponymlaw09_BidiEnds_K11 p_p p_l p_more s10 = some r) ?_ ?_
              · intro Kn50 hn50
                ((conv => whnf); repeat ((first | refine T_seq ?_ | refine T_z mix ?_ | refine T_cut ?_ | refine T_block ?_ | refine T_cond rfl ?_ | refine T_loop ?_ | refine storeEq rfl ?_ | refine drawGo (by kernel_rfl) ?_ | fail); (conv => whnf)))
                refine br_b rfl h50 (fun c51 h50 => ?_) (fun c51 h50 => ?_)
                · ((conv => whnf); repeat ((first | refine T_seq ?_ | refine T_z mix ?_ | refine T_cut ?_ | refine T_block ?_ | refine T_cond rfl ?_ | refine T_loop ?_ | refine storeEq rfl ?_ | refine drawGo (by kernel_rfl) ?_ | fail); (conv => whnf)))
                  refine br_b rfl h50 (fun c52 h50 => ?_) (fun c52 h50 => ?_)
                  · ((conv => whnf); repeat ((first | refine T_seq ?_ | refine T_z mix ?_ | refine T_cut ?_ | refine T_block ?_ | refine T_cond rfl ?_ | refine T_loop ?_ | refine storeEq rfl ?_ | refine drawGo (by kernel_rfl) ?_ | fail); (conv => whnf)))
                    refine br_b rfl h50 (fun c53 h50 => ?_) (fun c53 h50 => ?_)
                    · have e := Option.some.inj h50; subst e
                      ((conv => whnf); repeat ((first | refine T_seq ?_ | refine T_z mix ?_ | refine T_cut ?_ | refine T_block ?_ | refine T_cond rfl ?_ | refine T_loop ?_ | refine storeEq rfl ?_ | refine drawGo (by kernel_rfl) ?_ | fail); (conv => whnf)))
                      exact hn50 _ true hc49 (weak_gen [0] rfl rfl (storeLe.cons rfl (objLe.mk (by intro hf; first | exact hf | rfl) (by intro hf; first | exact hf | rfl) (rowLe_vals (valsLe.cons (cellsLe_refl rfl) valsLe.nil))) storeLe.nil) (slotsLe.cons (And.intro rfl (AV.Le.refl _)) (slotsLe.cons (And.intro rfl (AV.Le.refl _)) (slotsLe.cons (And.intro rfl (AV.Le.refl _)) (slotsLe.cons (And.intro rfl (AV.Le.refl _)) slotsLe.nil)))))
                    · ((conv => whnf); repeat ((first | refine T_seq ?_ | refine T_z mix ?_ | refine T_cut ?_ | refine T_block ?_ | refine T_cond rfl ?_ | refine T_loop ?_ | refine storeEq rfl ?_ | refine drawGo (by kernel_rfl) ?_ | fail); (conv => whnf)))
                      refine br_b rfl h50 (fun c54 h50 => ?_) (fun c54 h50 => ?_)
                      · ((conv => whnf); repeat ((first | refine T_seq ?_ | refine T_z mix ?_ | refine T_cut ?_ | refine T_block ?_ | refine T_cond rfl ?_ | refine T_loop ?_ | refine storeEq rfl ?_ | refine drawGo (by kernel_rfl) ?_ | fail); (conv => whnf)))
                        refine br_b rfl h50 (fun c55 h50 => ?_) (fun c55 h50 => ?_)
                        · ((conv => whnf); repeat ((first | refine T_seq ?_ | refine T_z mix ?_ | refine T_cut ?_ | refine T_block ?_ | refine T_cond rfl ?_ | refine T_loop ?_ | refine storeEq rfl ?_ | refine drawGo (by kernel_rfl) ?_ | fail); (conv => whnf)))
                          refine br_b rfl h50 (fun c56 h50 => ?_) (fun c56 h50 => ?_)
                          · ((conv => whnf); repeat ((first | refine T_seq ?_ | refine T_z mix ?_ | refine T_cut ?_ | refine T_block ?_ | refine T_cond rfl ?_ | refine T_loop ?_ | refine storeEq rfl ?_ | refine drawGo (by kernel_rfl) ?_ | fail); (conv => whnf)))
                            refine br_b rfl h50 (fun c57 h50 => ?_) (fun c57 h50 => ?_)
                            · have e := Option.some.inj h50; subst e
                              ((conv => whnf); repeat ((first | refine T_seq ?_ | refine T_z mix ?_ | refine T_cut ?_ | refine T_block ?_ | refine T_cond rfl ?_ | refine T_loop ?_ | refine storeEq rfl ?_ | refine drawGo (by kernel_rfl) ?_ | fail); (conv => whnf)))
                              exact hn50 _ (y8 != (5 : Int)) hc49 (weak_gen [0] rfl rfl (storeLe.cons rfl (objLe.mk (by intro hf; first | exact hf | rfl) (by intro hf; first | exact hf | rfl) (rowLe_vals (valsLe.cons (cellsLe_refl rfl) valsLe.nil))) storeLe.nil) (slotsLe.cons (And.intro rfl (AV.Le.refl _)) (slotsLe.cons (And.intro rfl (AV.Le.refl _)) (slotsLe.cons (And.intro rfl (AV.Le.refl _)) (slotsLe.cons (And.intro rfl (AV.Le.refl _)) slotsLe.nil)))))
                            · have e := Option.some.inj h50; subst e
                              ((conv => whnf); repeat ((first | refine T_seq ?_ | refine T_z mix ?_ | refine T_cut ?_ | refine T_block ?_ | refine T_cond rfl ?_ | refine T_loop ?_ | refine storeEq rfl ?_ | refine drawGo (by kernel_rfl) ?_ | fail); (conv => whnf)))
                              exact hn50 _ false hc49 (weak_gen [0] rfl rfl (storeLe.cons rfl (objLe.mk (by intro hf; first | exact hf | rfl) (by intro hf; first | exact hf | rfl) (rowLe_vals (valsLe.cons (cellsLe_refl rfl) valsLe.nil))) storeLe.nil) (slotsLe.cons (And.intro rfl (AV.Le.refl _)) (slotsLe.cons (And.intro rfl (AV.Le.refl _)) (slotsLe.cons (And.intro rfl (AV.Le.refl _)) (slotsLe.cons (And.intro rfl (AV.Le.refl _)) slotsLe.nil)))))
                          · have e := Option.some.inj h50; subst e
                            ((conv => whnf); repeat ((first | refine T_seq ?_ | refine T_z mix ?_ | refine T_cut ?_ | refine T_block ?_ | refine T_cond rfl ?_ | refine T_loop ?_ | refine storeEq rfl ?_ | refine drawGo (by kernel_rfl) ?_ | fail); (conv => whnf)))
                            exact hn50 _ false hc49 (weak_gen [0] rfl rfl (storeLe.cons rfl (objLe.mk (by intro hf; first | exact hf | rfl) (by intro hf; first | exact hf | rfl) (rowLe_vals (valsLe.cons (cellsLe_refl rfl) valsLe.nil))) storeLe.nil) (slotsLe.cons (And.intro rfl (AV.Le.refl _)) (slotsLe.cons (And.intro rfl (AV.Le.refl _)) (slotsLe.cons (And.intro rfl (AV.Le.refl _)) (slotsLe.cons (And.intro rfl (AV.Le.refl _)) slotsLe.nil)))))
                        · have e := Option.some.inj h50; subst e
                          ((conv => whnf); repeat ((first | refine T_seq ?_ | refine T_z mix ?_ | refine T_cut ?_ | refine T_block ?_ | refine T_cond rfl ?_ | refine T_loop ?_ | refine storeEq rfl ?_ | refine drawGo (by kernel_rfl) ?_ | fail); (conv => whnf)))
                          exact hn50 _ false hc49 (weak_gen [0] rfl rfl (storeLe.cons rfl (objLe.mk (by intro hf; first | exact hf | rfl) (by intro hf; first | exact hf | rfl) (rowLe_vals (valsLe.cons (cellsLe_refl rfl) valsLe.nil))) storeLe.nil) (slotsLe.cons (And.intro rfl (AV.Le.refl _)) (slotsLe.cons (And.intro rfl (AV.Le.refl _)) (slotsLe.cons (And.intro rfl (AV.Le.refl _)) (slotsLe.cons (And.intro rfl (AV.Le.refl _)) slotsLe.nil)))))
                      · have e := Option.some.inj h50; subst e
                        ((conv => whnf); repeat ((first | refine T_seq ?_ | refine T_z mix ?_ | refine T_cut ?_ | refine T_block ?_ | refine T_cond rfl ?_ | refine T_loop ?_ | refine storeEq rfl ?_ | refine drawGo (by kernel_rfl) ?_ | fail); (conv => whnf)))
                        exact hn50 _ false hc49 (weak_gen [0] rfl rfl (storeLe.cons rfl (objLe.mk (by intro hf; first | exact hf | rfl) (by intro hf; first | exact hf | rfl) (rowLe_vals (valsLe.cons (cellsLe_refl rfl) valsLe.nil))) storeLe.nil) (slotsLe.cons (And.intro rfl (AV.Le.refl _)) (slotsLe.cons (And.intro rfl (AV.Le.refl _)) (slotsLe.cons (And.intro rfl (AV.Le.refl _)) (slotsLe.cons (And.intro rfl (AV.Le.refl _)) slotsLe.nil)))))
                  · ((conv => whnf); repeat ((first | refine T_seq ?_ | refine T_z mix ?_ | refine T_cut ?_ | refine T_block ?_ | refine T_cond rfl ?_ | refine T_loop ?_ | refine storeEq rfl ?_ | refine drawGo (by kernel_rfl) ?_ | fail); (conv => whnf)))
                    refine br_b rfl h50 (fun c58 h50 => ?_) (fun c58 h50 => ?_)
                    · ((conv => whnf); repeat ((first | refine T_seq ?_ | refine T_z mix ?_ | refine T_cut ?_ | refine T_block ?_ | refine T_cond rfl ?_ | refine T_loop ?_ | refine storeEq rfl ?_ | refine drawGo (by kernel_rfl) ?_ | fail); (conv => whnf)))
                      refine br_b rfl h50 (fun c59 h50 => ?_) (fun c59 h50 => ?_)
                      · ((conv => whnf); repeat ((first | refine T_seq ?_ | refine T_z mix ?_ | refine T_cut ?_ | refine T_block ?_ | refine T_cond rfl ?_ | refine T_loop ?_ | refine storeEq rfl ?_ | refine drawGo (by kernel_rfl) ?_ | fail); (conv => whnf)))
                        refine br_b rfl h50 (fun c60 h50 => ?_) (fun c60 h50 => ?_)
                        · ((conv => whnf); repeat ((first | refine T_seq ?_ | refine T_z mix ?_ | refine T_cut ?_ | refine T_block ?_ | refine T_cond rfl ?_ | refine T_loop ?_ | refine storeEq rfl ?_ | refine drawGo (by kernel_rfl) ?_ | fail); (conv => whnf)))
                          refine br_b rfl h50 (fun c61 h50 => ?_) (fun c61 h50 => ?_)
                          · have e := Option.some.inj h50; subst e
                            ((conv => whnf); repeat ((first | refine T_seq ?_ | refine T_z mix ?_ | refine T_cut ?_ | refine T_block ?_ | refine T_cond rfl ?_ | refine T_loop ?_ | refine storeEq rfl ?_ | refine drawGo (by kernel_rfl) ?_ | fail); (conv => whnf)))
                            exact hn50 _ (y8 != (5 : Int)) hc49 (weak_gen [0] rfl rfl (storeLe.cons rfl (objLe.mk (by intro hf; first | exact hf | rfl) (by intro hf; first | exact hf | rfl) (rowLe_vals (valsLe.cons (cellsLe_refl rfl) valsLe.nil))) storeLe.nil) (slotsLe.cons (And.intro rfl (AV.Le.refl _)) (slotsLe.cons (And.intro rfl (AV.Le.refl _)) (slotsLe.cons (And.intro rfl (AV.Le.refl _)) (slotsLe.cons (And.intro rfl (AV.Le.refl _)) slotsLe.nil)))))
                          · have e := Option.some.inj h50; subst e
                            ((conv => whnf); repeat ((first | refine T_seq ?_ | refine T_z mix ?_ | refine T_cut ?_ | refine T_block ?_ | refine T_cond rfl ?_ | refine T_loop ?_ | refine storeEq rfl ?_ | refine drawGo (by kernel_rfl) ?_ | fail); (conv => whnf)))
                            exact hn50 _ false hc49 (weak_gen [0] rfl rfl (storeLe.cons rfl (objLe.mk (by intro hf; first | exact hf | rfl) (by intro hf; first | exact hf | rfl) (rowLe_vals (valsLe.cons (cellsLe_refl rfl) valsLe.nil))) storeLe.nil) (slotsLe.cons (And.intro rfl (AV.Le.refl _)) (slotsLe.cons (And.intro rfl (AV.Le.refl _)) (slotsLe.cons (And.intro rfl (AV.Le.refl _)) (slotsLe.cons (And.intro rfl (AV.Le.refl _)) slotsLe.nil)))))
                        · have e := Option.some.inj h50; subst e
                          ((conv => whnf); repeat ((first | refine T_seq ?_ | refine T_z mix ?_ | refine T_cut ?_ | refine T_block ?_ | refine T_cond rfl ?_ | refine T_loop ?_ | refine storeEq rfl ?_ | refine drawGo (by kernel_rfl) ?_ | fail); (conv => whnf)))
                          exact hn50 _ false hc49 (weak_gen [0] rfl rfl (storeLe.cons rfl (objLe.mk (by intro hf; first | exact hf | rfl) (by intro hf; first | exact hf | rfl) (rowLe_vals (valsLe.cons (cellsLe_refl rfl) valsLe.nil))) storeLe.nil) (slotsLe.cons (And.intro rfl (AV.Le.refl _)) (slotsLe.cons (And.intro rfl (AV.Le.refl _)) (slotsLe.cons (And.intro rfl (AV.Le.refl _)) (slotsLe.cons (And.intro rfl (AV.Le.refl _)) slotsLe.nil)))))
                      · have e := Option.some.inj h50; subst e
                        ((conv => whnf); repeat ((first | refine T_seq ?_ | refine T_z mix ?_ | refine T_cut ?_ | refine T_block ?_ | refine T_cond rfl ?_ | refine T_loop ?_ | refine storeEq rfl ?_ | refine drawGo (by kernel_rfl) ?_ | fail); (conv => whnf)))
                        exact hn50 _ false hc49 (weak_gen [0] rfl rfl (storeLe.cons rfl (objLe.mk (by intro hf; first | exact hf | rfl) (by intro hf; first | exact hf | rfl) (rowLe_vals (valsLe.cons (cellsLe_refl rfl) valsLe.nil))) storeLe.nil) (slotsLe.cons (And.intro rfl (AV.Le.refl _)) (slotsLe.cons (And.intro rfl (AV.Le.refl _)) (slotsLe.cons (And.intro rfl (AV.Le.refl _)) (slotsLe.cons (And.intro rfl (AV.Le.refl _)) slotsLe.nil)))))
                    · have e := Option.some.inj h50; subst e
                      ((conv => whnf); repeat ((first | refine T_seq ?_ | refine T_z mix ?_ | refine T_cut ?_ | refine T_block ?_ | refine T_cond rfl ?_ | refine T_loop ?_ | refine storeEq rfl ?_ | refine drawGo (by kernel_rfl) ?_ | fail); (conv => whnf)))
                      exact hn50 _ false hc49 (weak_gen [0] rfl rfl (storeLe.cons rfl (objLe.mk (by intro hf; first | exact hf | rfl) (by intro hf; first | exact hf | rfl) (rowLe_vals (valsLe.cons (cellsLe_refl rfl) valsLe.nil))) storeLe.nil) (slotsLe.cons (And.intro rfl (AV.Le.refl _)) (slotsLe.cons (And.intro rfl (AV.Le.refl _)) (slotsLe.cons (And.intro rfl (AV.Le.refl _)) (slotsLe.cons (And.intro rfl (AV.Le.refl _)) slotsLe.nil)))))
                · ((conv => whnf); repeat ((first | refine T_seq ?_ | refine T_z mix ?_ | refine T_cut ?_ | refine T_block ?_ | refine T_cond rfl ?_ | refine T_loop ?_ | refine storeEq rfl ?_ | refine drawGo (by kernel_rfl) ?_ | fail); (conv => whnf)))
                  refine br_b rfl h50 (fun c62 h50 => ?_) (fun c62 h50 => ?_)
                  · ((conv => whnf); repeat ((first | refine T_seq ?_ | refine T_z mix ?_ | refine T_cut ?_ | refine T_block ?_ | refine T_cond rfl ?_ | refine T_loop ?_ | refine storeEq rfl ?_ | refine drawGo (by kernel_rfl) ?_ | fail); (conv => whnf)))
                    refine br_b rfl h50 (fun c63 h50 => ?_) (fun c63 h50 => ?_)
                    · ((conv => whnf); repeat ((first | refine T_seq ?_ | refine T_z mix ?_ | refine T_cut ?_ | refine T_block ?_ | refine T_cond rfl ?_ | refine T_loop ?_ | refine storeEq rfl ?_ | refine drawGo (by kernel_rfl) ?_ | fail); (conv => whnf)))
                      refine br_b rfl h50 (fun c64 h50 => ?_) (fun c64 h50 => ?_)
                      · ((conv => whnf); repeat ((first | refine T_seq ?_ | refine T_z mix ?_ | refine T_cut ?_ | refine T_block ?_ | refine T_cond rfl ?_ | refine T_loop ?_ | refine storeEq rfl ?_ | refine drawGo (by kernel_rfl) ?_ | fail); (conv => whnf)))
                        refine br_b rfl h50 (fun c65 h50 => ?_) (fun c65 h50 => ?_)
                        · have e := Option.some.inj h50; subst e
                          ((conv => whnf); repeat ((first | refine T_seq ?_ | refine T_z mix ?_ | refine T_cut ?_ | refine T_block ?_ | refine T_cond rfl ?_ | refine T_loop ?_ | refine storeEq rfl ?_ | refine drawGo (by kernel_rfl) ?_ | fail); (conv => whnf)))
                          exact hn50 _ (y8 != (5 : Int)) hc49 (weak_gen [0] rfl rfl (storeLe.cons rfl (objLe.mk (by intro hf; first | exact hf | rfl) (by intro hf; first | exact hf | rfl) (rowLe_vals (valsLe.cons (cellsLe_refl rfl) valsLe.nil))) storeLe.nil) (slotsLe.cons (And.intro rfl (AV.Le.refl _)) (slotsLe.cons (And.intro rfl (AV.Le.refl _)) (slotsLe.cons (And.intro rfl (AV.Le.refl _)) (slotsLe.cons (And.intro rfl (AV.Le.refl _)) slotsLe.nil)))))
                        · have e := Option.some.inj h50; subst e
                          ((conv => whnf); repeat ((first | refine T_seq ?_ | refine T_z mix ?_ | refine T_cut ?_ | refine T_block ?_ | refine T_cond rfl ?_ | refine T_loop ?_ | refine storeEq rfl ?_ | refine drawGo (by kernel_rfl) ?_ | fail); (conv => whnf)))
                          exact hn50 _ false hc49 (weak_gen [0] rfl rfl (storeLe.cons rfl (objLe.mk (by intro hf; first | exact hf | rfl) (by intro hf; first | exact hf | rfl) (rowLe_vals (valsLe.cons (cellsLe_refl rfl) valsLe.nil))) storeLe.nil) (slotsLe.cons (And.intro rfl (AV.Le.refl _)) (slotsLe.cons (And.intro rfl (AV.Le.refl _)) (slotsLe.cons (And.intro rfl (AV.Le.refl _)) (slotsLe.cons (And.intro rfl (AV.Le.refl _)) slotsLe.nil)))))
                      · have e := Option.some.inj h50; subst e
                        ((conv => whnf); repeat ((first | refine T_seq ?_ | refine T_z mix ?_ | refine T_cut ?_ | refine T_block ?_ | refine T_cond rfl ?_ | refine T_loop ?_ | refine storeEq rfl ?_ | refine drawGo (by kernel_rfl) ?_ | fail); (conv => whnf)))
                        exact hn50 _ false hc49 (weak_gen [0] rfl rfl (storeLe.cons rfl (objLe.mk (by intro hf; first | exact hf | rfl) (by intro hf; first | exact hf | rfl) (rowLe_vals (valsLe.cons (cellsLe_refl rfl) valsLe.nil))) storeLe.nil) (slotsLe.cons (And.intro rfl (AV.Le.refl _)) (slotsLe.cons (And.intro rfl (AV.Le.refl _)) (slotsLe.cons (And.intro rfl (AV.Le.refl _)) (slotsLe.cons (And.intro rfl (AV.Le.refl _)) slotsLe.nil)))))
                    · have e := Option.some.inj h50; subst e
                      ((conv => whnf); repeat ((first | refine T_seq ?_ | refine T_z mix ?_ | refine T_cut ?_ | refine T_block ?_ | refine T_cond rfl ?_ | refine T_loop ?_ | refine storeEq rfl ?_ | refine drawGo (by kernel_rfl) ?_ | fail); (conv => whnf)))
                      exact hn50 _ false hc49 (weak_gen [0] rfl rfl (storeLe.cons rfl (objLe.mk (by intro hf; first | exact hf | rfl) (by intro hf; first | exact hf | rfl) (rowLe_vals (valsLe.cons (cellsLe_refl rfl) valsLe.nil))) storeLe.nil) (slotsLe.cons (And.intro rfl (AV.Le.refl _)) (slotsLe.cons (And.intro rfl (AV.Le.refl _)) (slotsLe.cons (And.intro rfl (AV.Le.refl _)) (slotsLe.cons (And.intro rfl (AV.Le.refl _)) slotsLe.nil)))))
                  · have e := Option.some.inj h50; subst e
                    ((conv => whnf); repeat ((first | refine T_seq ?_ | refine T_z mix ?_ | refine T_cut ?_ | refine T_block ?_ | refine T_cond rfl ?_ | refine T_loop ?_ | refine storeEq rfl ?_ | refine drawGo (by kernel_rfl) ?_ | fail); (conv => whnf)))
                    exact hn50 _ false hc49 (weak_gen [0] rfl rfl (storeLe.cons rfl (objLe.mk (by intro hf; first | exact hf | rfl) (by intro hf; first | exact hf | rfl) (rowLe_vals (valsLe.cons (cellsLe_refl rfl) valsLe.nil))) storeLe.nil) (slotsLe.cons (And.intro rfl (AV.Le.refl _)) (slotsLe.cons (And.intro rfl (AV.Le.refl _)) (slotsLe.cons (And.intro rfl (AV.Le.refl _)) (slotsLe.cons (And.intro rfl (AV.Le.refl _)) slotsLe.nil)))))
              · clear hc49 h50
                intro s10 hc66
                ((conv => whnf); repeat ((first | refine T_seq ?_ | refine T_z mix ?_ | refine T_cut ?_ | refine T_block ?_ | refine T_cond rfl ?_ | refine T_loop ?_ | refine storeEq rfl ?_ | refine drawGo (by kernel_rfl) ?_ | fail); (conv => whnf)))
                refine br_b rfl hc66 (fun c67 hc66 => ?_) (fun c67 hc66 => ?_)
                · have e := Option.some.inj hc66; subst e
                  ((conv => whnf); repeat ((first | refine T_seq ?_ | refine T_z mix ?_ | refine T_cut ?_ | refine T_block ?_ | refine T_cond rfl ?_ | refine T_loop ?_ | refine storeEq rfl ?_ | refine drawGo (by kernel_rfl) ?_ | fail); (conv => whnf)))
                  exact And.intro (AV.Le.refl _) rfl
                · ((conv => whnf); repeat ((first | refine T_seq ?_ | refine T_z mix ?_ | refine T_cut ?_ | refine T_block ?_ | refine T_cond rfl ?_ | refine T_loop ?_ | refine storeEq rfl ?_ | refine drawGo (by kernel_rfl) ?_ | fail); (conv => whnf)))
                  obtain ⟨p68, hc66⟩ := grdO hc66
                  refine ⟨[], p_l.length, (.ints .i32 p_l), ⟨rfl, rfl, fun j hj => rfl⟩, trivial, fun j hj => rfl, ?_⟩
                  conv => whnf
                  refine ⟨by simp [Row.len]; try omega, p68, by omega, ?_⟩
                  ((conv => whnf); repeat ((first | refine T_seq ?_ | refine T_z mix ?_ | refine T_cut ?_ | refine T_block ?_ | refine T_cond rfl ?_ | refine T_loop ?_ | refine storeEq rfl ?_ | refine drawGo (by kernel_rfl) ?_ | fail); (conv => whnf)))
                  refine bnd hc66 (fun x69 h69 hc66 => ?_)
                  refine cut_at (fun s12 : (List Int) => mkF 145 [(1, (e_L_i32 p_l)), (3, (.mp 0 0 0)), (12, (.ms 1 s12.length))] [some ⟨11, 24, (.vals [(e_api_Props p_p)]), false, false⟩, some ⟨1, 21, (.ints .i32 s12), false, false⟩]) (fun s12 : (List Int) => m_eponymlaw09_BidiEnds_K13 p_p p_l s12 = some r) ?_ ?_
                  · intro Kn69 hn69
                    ((conv => whnf); repeat ((first | refine T_seq ?_ | refine T_z mix ?_ | refine T_cut ?_ | refine T_block ?_ | refine T_cond rfl ?_ | refine T_loop ?_ | refine storeEq rfl ?_ | refine drawGo (by kernel_rfl) ?_ | fail); (conv => whnf)))
                    refine loop_iter (fun s18 : (List Int) × Int => mkF 145 [(1, (e_L_i32 p_l)), (2, (e_L_i32 p_more)), (3, (.mp 0 0 0)), (12, (.ms 1 s18.1.length)), (13, (.int .i64 s18.2))] [some ⟨11, 24, (.vals [(e_api_Props p_p)]), false, false⟩, some ⟨1, 21, (.ints .i32 s18.1), false, false⟩]) h69 (weak_gen [0, 2] rfl rfl (storeLe.cons rfl (objLe.mk (by intro hf; first | exact hf | rfl) (by intro hf; first | exact hf | rfl) (rowLe_vals (valsLe.cons (cellsLe_refl rfl) valsLe.nil))) (storeLe.cons rfl (objLe.mk (by intro hf; first | exact hf | rfl) (by intro hf; first | exact hf | rfl) (rowLe_ints (by first | rfl | simp))) storeLe.nil)) (slotsLe.cons (And.intro rfl (AV.Le.refl _)) (slotsLe.cons (And.intro rfl (AV.Le.refl _)) (slotsLe.cons (And.intro rfl (AV.Le.refl _)) (slotsLe.cons (And.intro rfl (AV.Le.of_eq (congrArg (AV.ms _) (by first | rfl | simp | (simp; omega))))) (slotsLe.cons (And.intro rfl (AV.Le.refl _)) slotsLe.nil)))))) ?_
                    intro k20 s18 st20 Kn20 hn20 h20_ hs20
                    ((conv => whnf); repeat ((first | refine T_seq ?_ | refine T_z mix ?_ | refine T_cut ?_ | refine T_block ?_ | refine T_cond rfl ?_ | refine T_loop ?_ | refine storeEq rfl ?_ | refine drawGo (by kernel_rfl) ?_ | fail); (conv => whnf)))
                    refine br_b rfl h20_ (fun c70 h20_ => ?_) (fun c70 h20_ => ?_)
                    · ((conv => whnf); repeat ((first | refine T_seq ?_ | refine T_z mix ?_ | refine T_cut ?_ | refine T_block ?_ | refine T_cond rfl ?_ | refine T_loop ?_ | refine storeEq rfl ?_ | refine drawGo (by kernel_rfl) ?_ | fail); (conv => whnf)))
                      refine grd2 rfl rfl h20_ (fun h20_ => ?_)
                      ((conv => whnf); repeat ((first | refine T_seq ?_ | refine T_z mix ?_ | refine T_cut ?_ | refine T_block ?_ | refine T_cond rfl ?_ | refine T_loop ?_ | refine storeEq rfl ?_ | refine drawGo (by kernel_rfl) ?_ | fail); (conv => whnf)))
                      refine bnd h20_ (fun y21 hy21 h20_ => ?_)
                      refine Or.inl ⟨_, c_classes_Direction _ _ _ hy21, rfl, ?_⟩
                      ((conv => whnf); repeat ((first | refine T_seq ?_ | refine T_z mix ?_ | refine T_cut ?_ | refine T_block ?_ | refine T_cond rfl ?_ | refine T_loop ?_ | refine storeEq rfl ?_ | refine drawGo (by kernel_rfl) ?_ | fail); (conv => whnf)))
                      refine br_b rfl h20_ (fun c71 h20_ => ?_) (fun c71 h20_ => ?_)
                      · have e := Option.some.inj h20_; subst e
                        have e := done_out hs20; subst e
                        have e := Option.some.inj hc66; subst e
                        ((conv => whnf); repeat ((first | refine T_seq ?_ | refine T_z mix ?_ | refine T_cut ?_ | refine T_block ?_ | refine T_cond rfl ?_ | refine T_loop ?_ | refine storeEq rfl ?_ | refine drawGo (by kernel_rfl) ?_ | fail); (conv => whnf)))
                        exact And.intro (AV.Le.refl _) rfl
                      · ((conv => whnf); repeat ((first | refine T_seq ?_ | refine T_z mix ?_ | refine T_cut ?_ | refine T_block ?_ | refine T_cond rfl ?_ | refine T_loop ?_ | refine storeEq rfl ?_ | refine drawGo (by kernel_rfl) ?_ | fail); (conv => whnf)))
                        refine grd2 rfl rfl h20_ (fun h20_ => ?_)
                        ((conv => whnf); repeat ((first | refine T_seq ?_ | refine T_z mix ?_ | refine T_cut ?_ | refine T_block ?_ | refine T_cond rfl ?_ | refine T_loop ?_ | refine storeEq rfl ?_ | refine drawGo (by kernel_rfl) ?_ | fail); (conv => whnf)))
                        obtain ⟨p72, h20_⟩ := grdO h20_
                        refine ⟨[], 1, (.ints .i32 [(p_more.getD (s18.2.toNat) 0)]), ⟨by simp [Row.len] <;> omega, rfl, _, rfl, by simp [Row.len] <;> omega, fun j hj => .inl rfl⟩, trivial, fun j hj => rfl, ?_⟩
                        conv => whnf
                        refine ⟨by simp [Row.len]; try omega, p72, by omega, ?_⟩
                        have e := Option.some.inj h20_; subst e
                        ((conv => whnf); repeat ((first | refine T_seq ?_ | refine T_z mix ?_ | refine T_cut ?_ | refine T_block ?_ | refine T_cond rfl ?_ | refine T_loop ?_ | refine storeEq rfl ?_ | refine drawGo (by kernel_rfl) ?_ | fail); (conv => whnf)))
                        exact hn20 _ ((s18.1 ++ [(p_more.getD (s18.2.toNat) 0)]), (IntKind.wrap .i64 (s18.2 + (1 : Int)))) hs20 (weak_gen [0, 3] rfl rfl (storeLe.cons rfl (objLe.mk (by intro hf; first | exact hf | rfl) (by intro hf; first | exact hf | rfl) (rowLe_vals (valsLe.cons (cellsLe_refl rfl) valsLe.nil))) (storeLe.cons rfl (objLe.mk (by intro hf; first | exact hf | rfl) (by intro hf; first | exact hf | rfl) (rowLe_ints (by first | rfl | simp))) storeLe.nil)) (slotsLe.cons (And.intro rfl (AV.Le.refl _)) (slotsLe.cons (And.intro rfl (AV.Le.refl _)) (slotsLe.cons (And.intro rfl (AV.Le.refl _)) (slotsLe.cons (And.intro rfl (AV.Le.of_eq (congrArg (AV.ms _) (by first | rfl | simp | (simp; omega))))) (slotsLe.cons (And.intro rfl (AV.Le.refl _)) slotsLe.nil))))))
                    · have e := Option.some.inj h20_; subst e
                      have e := done_out hs20; subst e
                      ((conv => whnf); repeat ((first | refine T_seq ?_ | refine T_z mix ?_ | refine T_cut ?_ | refine T_block ?_ | refine T_cond rfl ?_ | refine T_loop ?_ | refine storeEq rfl ?_ | refine drawGo (by kernel_rfl) ?_ | fail); (conv => whnf)))
                      exact hn69 _ s18.1 hc66 (weak_gen [0, 1] rfl rfl (storeLe.cons rfl (objLe.mk (by intro hf; first | exact hf | rfl) (by intro hf; first | exact hf | rfl) (rowLe_vals (valsLe.cons (cellsLe_refl rfl) valsLe.nil))) (storeLe.cons rfl (objLe.mk (by intro hf; first | exact hf | rfl) (by intro hf; first | exact hf | rfl) (rowLe_ints (by first | rfl | simp))) storeLe.nil)) (slotsLe.cons (And.intro rfl (AV.Le.refl _)) (slotsLe.cons (And.intro rfl (AV.Le.refl _)) (slotsLe.cons (And.intro rfl (AV.Le.of_eq (congrArg (AV.ms _) (by first | rfl | simp | (simp; omega))))) slotsLe.nil))))
                  · clear hc66 h69
                    intro s12 hc73
                    ((conv => whnf); repeat ((first | refine T_seq ?_ | refine T_z mix ?_ | refine T_cut ?_ | refine T_block ?_ | refine T_cond rfl ?_ | refine T_loop ?_ | refine storeEq rfl ?_ | refine drawGo (by kernel_rfl) ?_ | fail); (conv => whnf)))
                    refine bnd hc73 (fun y14 hy14 hc73 => ?_)
                    refine Or.inl ⟨_, contract_le (c_bidi_Broken _ _ _ hy14) (argsLe.cons (AV.Le.refl _) (argsLe.cons (AV.Le.sl_any) argsLe.nil)), rfl, ?_⟩
                    ((conv => whnf); repeat ((first | refine T_seq ?_ | refine T_z mix ?_ | refine T_cut ?_ | refine T_block ?_ | refine T_cond rfl ?_ | refine T_loop ?_ | refine storeEq rfl ?_ | refine drawGo (by kernel_rfl) ?_ | fail); (conv => whnf)))
                    refine br_b rfl hc73 (fun c74 hc73 => ?_) (fun c74 hc73 => ?_)
                    · ((conv => whnf); repeat ((first | refine T_seq ?_ | refine T_z mix ?_ | refine T_cut ?_ | refine T_block ?_ | refine T_cond rfl ?_ | refine T_loop ?_ | refine storeEq rfl ?_ | refine drawGo (by kernel_rfl) ?_ | fail); (conv => whnf)))
                      refine bnd hc73 (fun y15 hy15 hc73 => ?_)
                      refine Or.inl ⟨_, contract_le (c_bidi_Right _ _ _ hy15) (argsLe.cons (AV.Le.refl _) (argsLe.cons (AV.Le.sl_any) argsLe.nil)), rfl, ?_⟩
                      ((conv => whnf); repeat ((first | refine T_seq ?_ | refine T_z mix ?_ | refine T_cut ?_ | refine T_block ?_ | refine T_cond rfl ?_ | refine T_loop ?_ | refine storeEq rfl ?_ | refine drawGo (by kernel_rfl) ?_ | fail); (conv => whnf)))
                      refine bnd hc73 (fun y16 hy16 hc73 => ?_)
                      refine Or.inl ⟨_, c_bidi_Right _ _ _ hy16, rfl, ?_⟩
                      have e := Option.some.inj hc73; subst e
                      ((conv => whnf); repeat ((first | refine T_seq ?_ | refine T_z mix ?_ | refine T_cut ?_ | refine T_block ?_ | refine T_cond rfl ?_ | refine T_loop ?_ | refine storeEq rfl ?_ | refine drawGo (by kernel_rfl) ?_ | fail); (conv => whnf)))
                      exact And.intro (AV.Le.refl _) rfl
                    · have e := Option.some.inj hc73; subst e
                      ((conv => whnf); repeat ((first | refine T_seq ?_ | refine T_z mix ?_ | refine T_cut ?_ | refine T_block ?_ | refine T_cond rfl ?_ | refine T_loop ?_ | refine storeEq rfl ?_ | refine drawGo (by kernel_rfl) ?_ | fail); (conv => whnf)))
                      exact And.intro (AV.Le.refl _) rfl
end Go.Proofs.YtjhgaacecfmadaaDoor
