/- Contracts of functions, walked by their models; printed by a program of ours. No condition. -/
import Derived.Test.YtjhgaacecfmadaaDoorK1
import Derived.Test.YtjhgaacecfmadaaDoorTwice
import Derived.Test.YtjhgaacecfmadaaDoorProg
import Derived.KernelRfl
namespace Go.Proofs.YtjhgaacecfmadaaDoor
open Go Go.SE
set_option linter.unusedVariables false
set_option linter.unusedSimpArgs false
set_option maxRecDepth 10000
set_option maxHeartbeats 2000000
attribute [local irreducible] Contract iter
theorem c_decomp_Check (p_t : T_api_Norm) (r : Er) (h : m_decomp_Check p_t = some r) : Contract pl 66 [(e_api_Norm p_t)] [] (AV.err r) [] := by
  refine contract_of (.t false .z (.t false (.t true .z .z) (.t false .z (.t false .z (.t true (.t false .z (.t false (.t false (.t false .z (.t false .z (.t false (.t false (.t false .z (.t false .z (.t true .z .z))) .z) .z))) .z) .z)) (.t false .z (.t false .z (.t true (.t false .z (.t false (.t false (.t false .z (.t false .z (.t false (.t false (.t false .z (.t true .z .z)) .z) .z))) .z) .z)) (.t true (.t false .z (.t false (.t false (.t false .z (.t false .z (.t false (.t false (.t false .z (.t false (.t false .z (.t false .z (.t true .z .z))) .z)) .z) .z))) .z) .z)) .z))))))))) Tryd.func66 rfl (by kernel_rfl) ?_
  ((conv=>whnf);repeat((first|refine Ta ?_|refine Tz mix ?_|refine Tc ?_|refine Tb ?_|refine Td rfl ?_|refine Tl ?_|refine sE rfl ?_|refine dG (by kernel_rfl) ?_|fail);(conv=>whnf)))
  refine bnd h (fun x51 h51 h => ?_)
  refine cut_at (fun s1 : Bool => mkF 136 [(1, (.mp 0 0 0)), (21, (.bool s1))] [some ⟨3, 40, (.vals [(e_api_Norm p_t)]), false, false⟩]) (fun s1 : Bool => m_decomp_Check_K2 p_t s1 = some r) ?_ ?_
  · intro Kn51 hn51
    ((conv=>whnf);repeat((first|refine Ta ?_|refine Tz mix ?_|refine Tc ?_|refine Tb ?_|refine Td rfl ?_|refine Tl ?_|refine sE rfl ?_|refine dG (by kernel_rfl) ?_|fail);(conv=>whnf)))
    refine br_b rfl h51 (fun c52 h51 => ?_) (fun c52 h51 => ?_)
    · have e := Option.some.inj h51; subst e
      ((conv=>whnf);repeat((first|refine Ta ?_|refine Tz mix ?_|refine Tc ?_|refine Tb ?_|refine Td rfl ?_|refine Tl ?_|refine sE rfl ?_|refine dG (by kernel_rfl) ?_|fail);(conv=>whnf)))
      exact hn51 _ true h (weak_gen [0] rfl rfl (storeLe.cons rfl (objLe.mk id id (rowLe_vals (valsLe.cons (cellsLe_refl rfl) valsLe.nil))) storeLe.nil) (slotsLe.cons (And.intro rfl (AV.Le.refl _)) (slotsLe.cons (And.intro rfl (AV.Le.refl _)) slotsLe.nil)))
    · have e := Option.some.inj h51; subst e
      ((conv=>whnf);repeat((first|refine Ta ?_|refine Tz mix ?_|refine Tc ?_|refine Tb ?_|refine Td rfl ?_|refine Tl ?_|refine sE rfl ?_|refine dG (by kernel_rfl) ?_|fail);(conv=>whnf)))
      exact hn51 _ (decide (((p_t.f_Excluded.length : Nat) : Int) > (2000 : Int))) h (weak_gen [0] rfl rfl (storeLe.cons rfl (objLe.mk id id (rowLe_vals (valsLe.cons (cellsLe_refl rfl) valsLe.nil))) storeLe.nil) (slotsLe.cons (And.intro rfl (AV.Le.refl _)) (slotsLe.cons (And.intro rfl (AV.Le.refl _)) slotsLe.nil)))
  · clear h h51
    intro s1 hc53
    ((conv=>whnf);repeat((first|refine Ta ?_|refine Tz mix ?_|refine Tc ?_|refine Tb ?_|refine Td rfl ?_|refine Tl ?_|refine sE rfl ?_|refine dG (by kernel_rfl) ?_|fail);(conv=>whnf)))
    refine br_b rfl hc53 (fun c54 hc53 => ?_) (fun c54 hc53 => ?_)
    · ((conv=>whnf);repeat((first|refine Ta ?_|refine Tz mix ?_|refine Tc ?_|refine Tb ?_|refine Td rfl ?_|refine Tl ?_|refine sE rfl ?_|refine dG (by kernel_rfl) ?_|fail);(conv=>whnf)))
      refine bnd hc53 (fun y3 hy3 hc53 => ?_)
      refine Or.inl ⟨_, c_decomp_fault _ _ _ hy3, rfl, ?_⟩
      have e := Option.some.inj hc53; subst e
      ((conv=>whnf);repeat((first|refine Ta ?_|refine Tz mix ?_|refine Tc ?_|refine Tb ?_|refine Td rfl ?_|refine Tl ?_|refine sE rfl ?_|refine dG (by kernel_rfl) ?_|fail);(conv=>whnf)))
      exact And.intro (AV.Le.refl _) rfl
    · ((conv=>whnf);repeat((first|refine Ta ?_|refine Tz mix ?_|refine Tc ?_|refine Tb ?_|refine Td rfl ?_|refine Tl ?_|refine sE rfl ?_|refine dG (by kernel_rfl) ?_|fail);(conv=>whnf)))
      refine bnd hc53 (fun y4 hy4 hc53 => ?_)
      refine Or.inl ⟨_, c_decomp_rises _ _ hy4, rfl, ?_⟩
      ((conv=>whnf);repeat((first|refine Ta ?_|refine Tz mix ?_|refine Tc ?_|refine Tb ?_|refine Td rfl ?_|refine Tl ?_|refine sE rfl ?_|refine dG (by kernel_rfl) ?_|fail);(conv=>whnf)))
      have ghc53 := gOf hc53
      refine grd3 rfl rfl rfl hc53 (fun hc53 => ?_)
      ((conv=>whnf);repeat((first|refine Ta ?_|refine Tz mix ?_|refine Tc ?_|refine Tb ?_|refine Td rfl ?_|refine Tl ?_|refine sE rfl ?_|refine dG (by kernel_rfl) ?_|fail);(conv=>whnf)))
      refine bnd hc53 (fun x55 h55 hc53 => ?_)
      refine cut_at (fun s5 : Unit => mkF 136 [(1, (.mp 0 0 0)), (3, (.int .i64 y4))] [some ⟨3, 40, (.vals [(e_api_Norm p_t)]), false, false⟩]) (fun s5 : Unit => m_decomp_Check_K6 p_t y4 s5 = some r) ?_ ?_
      · intro Kn55 hn55
        ((conv=>whnf);repeat((first|refine Ta ?_|refine Tz mix ?_|refine Tc ?_|refine Tb ?_|refine Td rfl ?_|refine Tl ?_|refine sE rfl ?_|refine dG (by kernel_rfl) ?_|fail);(conv=>whnf)))
        refine loop_iter (fun s39 : Int => mkF 136 [(1, (.mp 0 0 0)), (3, (.int .i64 y4)), (4, (.mp 1 0 0)), (31, (.int .i64 y4)), (32, (.int .i64 s39))] [some ⟨3, 40, (.vals [(e_api_Norm p_t)]), false, false⟩, some ⟨3, 40, (.vals [(.agg [(.sl none ((y4.toNat) - 0) fun j => (e_api_Row (p_t.f_Rows.getD (0 + j) d_api_Row))), (.sl (some true) 0 fun _ => .unk), (.sl (some true) 0 fun _ => .unk)])]), false, false⟩]) h55 (weak_gen [0, 1] rfl rfl (storeLe.cons rfl (objLe.mk id id (rowLe_vals (valsLe.cons (cellsLe_refl rfl) valsLe.nil))) (storeLe.cons rfl (objLe.mk id id (rowLe_vals (valsLe.cons (cellsLe_refl rfl) valsLe.nil))) storeLe.nil)) (slotsLe.cons (And.intro rfl (AV.Le.refl _)) (slotsLe.cons (And.intro rfl (AV.Le.refl _)) (slotsLe.cons (And.intro rfl (AV.Le.refl _)) (slotsLe.cons (And.intro rfl (AV.Le.refl _)) (slotsLe.cons (And.intro rfl (AV.Le.refl _)) slotsLe.nil)))))) ?_
        intro k41 s39 st41 Kn41 hn41 h41_ hs41
        ((conv=>whnf);repeat((first|refine Ta ?_|refine Tz mix ?_|refine Tc ?_|refine Tb ?_|refine Td rfl ?_|refine Tl ?_|refine sE rfl ?_|refine dG (by kernel_rfl) ?_|fail);(conv=>whnf)))
        refine br_b rfl h41_ (fun c56 h41_ => ?_) (fun c56 h41_ => ?_)
        · ((conv=>whnf);repeat((first|refine Ta ?_|refine Tz mix ?_|refine Tc ?_|refine Tb ?_|refine Td rfl ?_|refine Tl ?_|refine sE rfl ?_|refine dG (by kernel_rfl) ?_|fail);(conv=>whnf)))
          refine grd2 rfl rfl h41_ (fun h41_ => ?_)
          ((conv=>whnf);repeat((first|refine Ta ?_|refine Tz mix ?_|refine Tc ?_|refine Tb ?_|refine Td rfl ?_|refine Tl ?_|refine sE rfl ?_|refine dG (by kernel_rfl) ?_|fail);(conv=>whnf)))
          refine bnd h41_ (fun x57 h57 h41_ => ?_)
          refine cut_at (fun s42 : Bool => mkF 136 [(1, (.mp 0 0 0)), (3, (.int .i64 y4)), (4, (.mp 1 0 0)), (5, (.int .i64 s39)), (31, (.int .i64 y4)), (32, (.int .i64 s39)), (57, (.bool s42))] [some ⟨3, 40, (.vals [(e_api_Norm p_t)]), false, false⟩, some ⟨3, 40, (.vals [(.agg [(.sl none ((y4.toNat) - 0) fun j => (e_api_Row (p_t.f_Rows.getD (0 + j) d_api_Row))), (.sl (some true) 0 fun _ => .unk), (.sl (some true) 0 fun _ => .unk)])]), false, false⟩]) (fun s42 : Bool => m_decomp_Check_K43 s39 s42 = some st41) ?_ ?_
          · intro Kn57 hn57
            ((conv=>whnf);repeat((first|refine Ta ?_|refine Tz mix ?_|refine Tc ?_|refine Tb ?_|refine Td rfl ?_|refine Tl ?_|refine sE rfl ?_|refine dG (by kernel_rfl) ?_|fail);(conv=>whnf)))
            refine br_b rfl h57 (fun c58 h57 => ?_) (fun c58 h57 => ?_)
            · ((conv=>whnf);repeat((first|refine Ta ?_|refine Tz mix ?_|refine Tc ?_|refine Tb ?_|refine Td rfl ?_|refine Tl ?_|refine sE rfl ?_|refine dG (by kernel_rfl) ?_|fail);(conv=>whnf)))
              refine grd2 rfl rfl h57 (fun h57 => ?_)
              ((conv=>whnf);repeat((first|refine Ta ?_|refine Tz mix ?_|refine Tc ?_|refine Tb ?_|refine Td rfl ?_|refine Tl ?_|refine sE rfl ?_|refine dG (by kernel_rfl) ?_|fail);(conv=>whnf)))
              refine bnd h57 (fun y45 hy45 h57 => ?_)
              refine Or.inl ⟨_, c_decomp_has _ _ _ hy45, rfl, ?_⟩
              ((conv=>whnf);repeat((first|refine Ta ?_|refine Tz mix ?_|refine Tc ?_|refine Tb ?_|refine Td rfl ?_|refine Tl ?_|refine sE rfl ?_|refine dG (by kernel_rfl) ?_|fail);(conv=>whnf)))
              refine br_b rfl h57 (fun c59 h57 => ?_) (fun c59 h57 => ?_)
              · have e := Option.some.inj h57; subst e
                ((conv=>whnf);repeat((first|refine Ta ?_|refine Tz mix ?_|refine Tc ?_|refine Tb ?_|refine Td rfl ?_|refine Tl ?_|refine sE rfl ?_|refine dG (by kernel_rfl) ?_|fail);(conv=>whnf)))
                exact hn57 _ true h41_ (weak_gen [0, 1] rfl rfl (storeLe.cons rfl (objLe.mk id id (rowLe_vals (valsLe.cons (cellsLe_refl rfl) valsLe.nil))) (storeLe.cons rfl (objLe.mk id id (rowLe_vals (valsLe.cons (cellsLe_refl rfl) valsLe.nil))) storeLe.nil)) (slotsLe.cons (And.intro rfl (AV.Le.refl _)) (slotsLe.cons (And.intro rfl (AV.Le.refl _)) (slotsLe.cons (And.intro rfl (AV.Le.refl _)) (slotsLe.cons (And.intro rfl (AV.Le.refl _)) (slotsLe.cons (And.intro rfl (AV.Le.refl _)) (slotsLe.cons (And.intro rfl (AV.Le.refl _)) (slotsLe.cons (And.intro rfl (AV.Le.refl _)) slotsLe.nil))))))))
              · ((conv=>whnf);repeat((first|refine Ta ?_|refine Tz mix ?_|refine Tc ?_|refine Tb ?_|refine Td rfl ?_|refine Tl ?_|refine sE rfl ?_|refine dG (by kernel_rfl) ?_|fail);(conv=>whnf)))
                refine bnd h57 (fun y46 hy46 h57 => ?_)
                refine Or.inl ⟨_, contract_le (c_decomp_chain _ _ _ hy46) (argsLe.cons (AV.Le.agg (argsLe.cons (AV.Le.list (by simp; try omega) (fun j hj => by first | rfl | rw [getD_sub hj] | (rw [getD_take hj]; simp) | simp)) (argsLe.cons (AV.Le.list rfl (fun j hj => absurd hj (Nat.not_lt_zero _))) (argsLe.cons (AV.Le.list rfl (fun j hj => absurd hj (Nat.not_lt_zero _))) argsLe.nil)))) (argsLe.cons (AV.Le.refl _) argsLe.nil)), rfl, ?_⟩
                have e := Option.some.inj h57; subst e
                ((conv=>whnf);repeat((first|refine Ta ?_|refine Tz mix ?_|refine Tc ?_|refine Tb ?_|refine Td rfl ?_|refine Tl ?_|refine sE rfl ?_|refine dG (by kernel_rfl) ?_|fail);(conv=>whnf)))
                exact hn57 _ (decide (y46 > (8 : Int))) h41_ (weak_gen [0, 1] rfl rfl (storeLe.cons rfl (objLe.mk id id (rowLe_vals (valsLe.cons (cellsLe_refl rfl) valsLe.nil))) (storeLe.cons rfl (objLe.mk id id (rowLe_vals (valsLe.cons (cellsLe_refl rfl) valsLe.nil))) storeLe.nil)) (slotsLe.cons (And.intro rfl (AV.Le.refl _)) (slotsLe.cons (And.intro rfl (AV.Le.refl _)) (slotsLe.cons (And.intro rfl (AV.Le.refl _)) (slotsLe.cons (And.intro rfl (AV.Le.refl _)) (slotsLe.cons (And.intro rfl (AV.Le.refl _)) (slotsLe.cons (And.intro rfl (AV.Le.refl _)) (slotsLe.cons (And.intro rfl (AV.Le.refl _)) slotsLe.nil))))))))
            · ((conv=>whnf);repeat((first|refine Ta ?_|refine Tz mix ?_|refine Tc ?_|refine Tb ?_|refine Td rfl ?_|refine Tl ?_|refine sE rfl ?_|refine dG (by kernel_rfl) ?_|fail);(conv=>whnf)))
              refine bnd h57 (fun y47 hy47 h57 => ?_)
              refine Or.inl ⟨_, contract_le (c_decomp_chain _ _ _ hy47) (argsLe.cons (AV.Le.agg (argsLe.cons (AV.Le.list (by simp; try omega) (fun j hj => by first | rfl | rw [getD_sub hj] | (rw [getD_take hj]; simp) | simp)) (argsLe.cons (AV.Le.list rfl (fun j hj => absurd hj (Nat.not_lt_zero _))) (argsLe.cons (AV.Le.list rfl (fun j hj => absurd hj (Nat.not_lt_zero _))) argsLe.nil)))) (argsLe.cons (AV.Le.refl _) argsLe.nil)), rfl, ?_⟩
              have e := Option.some.inj h57; subst e
              ((conv=>whnf);repeat((first|refine Ta ?_|refine Tz mix ?_|refine Tc ?_|refine Tb ?_|refine Td rfl ?_|refine Tl ?_|refine sE rfl ?_|refine dG (by kernel_rfl) ?_|fail);(conv=>whnf)))
              exact hn57 _ (decide (y47 > (8 : Int))) h41_ (weak_gen [0, 1] rfl rfl (storeLe.cons rfl (objLe.mk id id (rowLe_vals (valsLe.cons (cellsLe_refl rfl) valsLe.nil))) (storeLe.cons rfl (objLe.mk id id (rowLe_vals (valsLe.cons (cellsLe_refl rfl) valsLe.nil))) storeLe.nil)) (slotsLe.cons (And.intro rfl (AV.Le.refl _)) (slotsLe.cons (And.intro rfl (AV.Le.refl _)) (slotsLe.cons (And.intro rfl (AV.Le.refl _)) (slotsLe.cons (And.intro rfl (AV.Le.refl _)) (slotsLe.cons (And.intro rfl (AV.Le.refl _)) (slotsLe.cons (And.intro rfl (AV.Le.refl _)) (slotsLe.cons (And.intro rfl (AV.Le.refl _)) slotsLe.nil))))))))
          · clear h41_ h57
            intro s42 hc60
            ((conv=>whnf);repeat((first|refine Ta ?_|refine Tz mix ?_|refine Tc ?_|refine Tb ?_|refine Td rfl ?_|refine Tl ?_|refine sE rfl ?_|refine dG (by kernel_rfl) ?_|fail);(conv=>whnf)))
            refine br_b rfl hc60 (fun c61 hc60 => ?_) (fun c61 hc60 => ?_)
            · ((conv=>whnf);repeat((first|refine Ta ?_|refine Tz mix ?_|refine Tc ?_|refine Tb ?_|refine Td rfl ?_|refine Tl ?_|refine sE rfl ?_|refine dG (by kernel_rfl) ?_|fail);(conv=>whnf)))
              refine bnd hc60 (fun y44 hy44 hc60 => ?_)
              refine Or.inl ⟨_, c_decomp_fault _ _ _ hy44, rfl, ?_⟩
              have e := Option.some.inj hc60; subst e
              have e := done_out hs41; subst e
              have e := Option.some.inj hc53; subst e
              ((conv=>whnf);repeat((first|refine Ta ?_|refine Tz mix ?_|refine Tc ?_|refine Tb ?_|refine Td rfl ?_|refine Tl ?_|refine sE rfl ?_|refine dG (by kernel_rfl) ?_|fail);(conv=>whnf)))
              exact And.intro (AV.Le.refl _) rfl
            · have e := Option.some.inj hc60; subst e
              ((conv=>whnf);repeat((first|refine Ta ?_|refine Tz mix ?_|refine Tc ?_|refine Tb ?_|refine Td rfl ?_|refine Tl ?_|refine sE rfl ?_|refine dG (by kernel_rfl) ?_|fail);(conv=>whnf)))
              exact hn41 _ (IntKind.wrap .i64 (s39 + (1 : Int))) hs41 (weak_gen [0, 1] rfl rfl (storeLe.cons rfl (objLe.mk id id (rowLe_vals (valsLe.cons (cellsLe_refl rfl) valsLe.nil))) (storeLe.cons rfl (objLe.mk id id (rowLe_vals (valsLe.cons (cellsLe_refl rfl) valsLe.nil))) storeLe.nil)) (slotsLe.cons (And.intro rfl (AV.Le.refl _)) (slotsLe.cons (And.intro rfl (AV.Le.refl _)) (slotsLe.cons (And.intro rfl (AV.Le.refl _)) (slotsLe.cons (And.intro rfl (AV.Le.refl _)) (slotsLe.cons (And.intro rfl (AV.Le.refl _)) slotsLe.nil))))))
        · have e := Option.some.inj h41_; subst e
          have e := done_out hs41; subst e
          ((conv=>whnf);repeat((first|refine Ta ?_|refine Tz mix ?_|refine Tc ?_|refine Tb ?_|refine Td rfl ?_|refine Tl ?_|refine sE rfl ?_|refine dG (by kernel_rfl) ?_|fail);(conv=>whnf)))
          exact hn55 _ () hc53 (weak_gen [0] rfl rfl (storeLe.cons rfl (objLe.mk id id (rowLe_vals (valsLe.cons (cellsLe_refl rfl) valsLe.nil))) storeLe.nil) (slotsLe.cons (And.intro rfl (AV.Le.refl _)) (slotsLe.cons (And.intro rfl (AV.Le.refl _)) slotsLe.nil)))
      · clear hc53 h55
        intro s5 hc62
        ((conv=>whnf);repeat((first|refine Ta ?_|refine Tz mix ?_|refine Tc ?_|refine Tb ?_|refine Td rfl ?_|refine Tl ?_|refine sE rfl ?_|refine dG (by kernel_rfl) ?_|fail);(conv=>whnf)))
        refine br_b rfl hc62 (fun c63 hc62 => ?_) (fun c63 hc62 => ?_)
        · ((conv=>whnf);repeat((first|refine Ta ?_|refine Tz mix ?_|refine Tc ?_|refine Tb ?_|refine Td rfl ?_|refine Tl ?_|refine sE rfl ?_|refine dG (by kernel_rfl) ?_|fail);(conv=>whnf)))
          refine bnd hc62 (fun y7 hy7 hc62 => ?_)
          refine Or.inl ⟨_, c_decomp_rowError _ _ _ hy7, rfl, ?_⟩
          ((conv=>whnf);repeat((first|refine Ta ?_|refine Tz mix ?_|refine Tc ?_|refine Tb ?_|refine Td rfl ?_|refine Tl ?_|refine sE rfl ?_|refine dG (by kernel_rfl) ?_|fail);(conv=>whnf)))
          refine bnd hc62 (fun y8 hy8 hc62 => ?_)
          refine Or.inl ⟨_, c_decomp_fault _ _ _ hy8, rfl, ?_⟩
          have e := Option.some.inj hc62; subst e
          ((conv=>whnf);repeat((first|refine Ta ?_|refine Tz mix ?_|refine Tc ?_|refine Tb ?_|refine Td rfl ?_|refine Tl ?_|refine sE rfl ?_|refine dG (by kernel_rfl) ?_|fail);(conv=>whnf)))
          exact And.intro (AV.Le.refl _) rfl
        · ((conv=>whnf);repeat((first|refine Ta ?_|refine Tz mix ?_|refine Tc ?_|refine Tb ?_|refine Td rfl ?_|refine Tl ?_|refine sE rfl ?_|refine dG (by kernel_rfl) ?_|fail);(conv=>whnf)))
          refine bnd hc62 (fun y9 hy9 hc62 => ?_)
          refine Or.inl ⟨_, c_ranges_Check _ _ hy9, rfl, ?_⟩
          ((conv=>whnf);repeat((first|refine Ta ?_|refine Tz mix ?_|refine Tc ?_|refine Tb ?_|refine Td rfl ?_|refine Tl ?_|refine sE rfl ?_|refine dG (by kernel_rfl) ?_|fail);(conv=>whnf)))
          refine br_b rfl hc62 (fun c64 hc62 => ?_) (fun c64 hc62 => ?_)
          · have e := Option.some.inj hc62; subst e
            ((conv=>whnf);repeat((first|refine Ta ?_|refine Tz mix ?_|refine Tc ?_|refine Tb ?_|refine Td rfl ?_|refine Tl ?_|refine sE rfl ?_|refine dG (by kernel_rfl) ?_|fail);(conv=>whnf)))
            exact And.intro (AV.Le.refl _) rfl
          · ((conv=>whnf);repeat((first|refine Ta ?_|refine Tz mix ?_|refine Tc ?_|refine Tb ?_|refine Td rfl ?_|refine Tl ?_|refine sE rfl ?_|refine dG (by kernel_rfl) ?_|fail);(conv=>whnf)))
            refine bnd hc62 (fun x65 h65 hc62 => ?_)
            refine cut_at (fun s10 : Unit => mkF 136 [(1, (.mp 0 0 0))] [some ⟨3, 40, (.vals [(e_api_Norm p_t)]), false, false⟩]) (fun s10 : Unit => m_decomp_Check_K11 p_t s10 = some r) ?_ ?_
            · intro Kn65 hn65
              ((conv=>whnf);repeat((first|refine Ta ?_|refine Tz mix ?_|refine Tc ?_|refine Tb ?_|refine Td rfl ?_|refine Tl ?_|refine sE rfl ?_|refine dG (by kernel_rfl) ?_|fail);(conv=>whnf)))
              refine loop_iter (fun s28 : Int => mkF 136 [(1, (.mp 0 0 0)), (79, (e_L_api_Range p_t.f_Classes)), (80, (.int .i64 ((p_t.f_Classes.length : Nat) : Int))), (81, (.int .i64 s28))] [some ⟨3, 40, (.vals [(e_api_Norm p_t)]), false, false⟩]) h65 (weak_gen [0] rfl rfl (storeLe.cons rfl (objLe.mk id id (rowLe_vals (valsLe.cons (cellsLe_refl rfl) valsLe.nil))) storeLe.nil) (slotsLe.cons (And.intro rfl (AV.Le.refl _)) (slotsLe.cons (And.intro rfl (AV.Le.refl _)) (slotsLe.cons (And.intro rfl (AV.Le.refl _)) (slotsLe.cons (And.intro rfl (AV.Le.refl _)) slotsLe.nil))))) ?_
              intro k30 s28 st30 Kn30 hn30 h30_ hs30
              ((conv=>whnf);repeat((first|refine Ta ?_|refine Tz mix ?_|refine Tc ?_|refine Tb ?_|refine Td rfl ?_|refine Tl ?_|refine sE rfl ?_|refine dG (by kernel_rfl) ?_|fail);(conv=>whnf)))
              refine br_b rfl h30_ (fun c66 h30_ => ?_) (fun c66 h30_ => ?_)
              · ((conv=>whnf);repeat((first|refine Ta ?_|refine Tz mix ?_|refine Tc ?_|refine Tb ?_|refine Td rfl ?_|refine Tl ?_|refine sE rfl ?_|refine dG (by kernel_rfl) ?_|fail);(conv=>whnf)))
                refine grd2 rfl rfl h30_ (fun h30_ => ?_)
                ((conv=>whnf);repeat((first|refine Ta ?_|refine Tz mix ?_|refine Tc ?_|refine Tb ?_|refine Td rfl ?_|refine Tl ?_|refine sE rfl ?_|refine dG (by kernel_rfl) ?_|fail);(conv=>whnf)))
                refine bnd h30_ (fun x67 h67 h30_ => ?_)
                refine cut_at (fun s31 : Bool => mkF 136 [(1, (.mp 0 0 0)), (8, (.int .i64 s28)), (79, (e_L_api_Range p_t.f_Classes)), (80, (.int .i64 ((p_t.f_Classes.length : Nat) : Int))), (81, (.int .i64 s28)), (97, (.bool s31))] [some ⟨3, 40, (.vals [(e_api_Norm p_t)]), false, false⟩]) (fun s31 : Bool => m_decomp_Check_K32 s28 s31 = some st30) ?_ ?_
                · intro Kn67 hn67
                  ((conv=>whnf);repeat((first|refine Ta ?_|refine Tz mix ?_|refine Tc ?_|refine Tb ?_|refine Td rfl ?_|refine Tl ?_|refine sE rfl ?_|refine dG (by kernel_rfl) ?_|fail);(conv=>whnf)))
                  refine br_b rfl h67 (fun c68 h67 => ?_) (fun c68 h67 => ?_)
                  · have e := Option.some.inj h67; subst e
                    ((conv=>whnf);repeat((first|refine Ta ?_|refine Tz mix ?_|refine Tc ?_|refine Tb ?_|refine Td rfl ?_|refine Tl ?_|refine sE rfl ?_|refine dG (by kernel_rfl) ?_|fail);(conv=>whnf)))
                    exact hn67 _ true h30_ (weak_gen [0] rfl rfl (storeLe.cons rfl (objLe.mk id id (rowLe_vals (valsLe.cons (cellsLe_refl rfl) valsLe.nil))) storeLe.nil) (slotsLe.cons (And.intro rfl (AV.Le.refl _)) (slotsLe.cons (And.intro rfl (AV.Le.refl _)) (slotsLe.cons (And.intro rfl (AV.Le.refl _)) (slotsLe.cons (And.intro rfl (AV.Le.refl _)) (slotsLe.cons (And.intro rfl (AV.Le.refl _)) (slotsLe.cons (And.intro rfl (AV.Le.refl _)) slotsLe.nil)))))))
                  · ((conv=>whnf);repeat((first|refine Ta ?_|refine Tz mix ?_|refine Tc ?_|refine Tb ?_|refine Td rfl ?_|refine Tl ?_|refine sE rfl ?_|refine dG (by kernel_rfl) ?_|fail);(conv=>whnf)))
                    refine br_b rfl h67 (fun c69 h67 => ?_) (fun c69 h67 => ?_)
                    · have e := Option.some.inj h67; subst e
                      ((conv=>whnf);repeat((first|refine Ta ?_|refine Tz mix ?_|refine Tc ?_|refine Tb ?_|refine Td rfl ?_|refine Tl ?_|refine sE rfl ?_|refine dG (by kernel_rfl) ?_|fail);(conv=>whnf)))
                      exact hn67 _ true h30_ (weak_gen [0] rfl rfl (storeLe.cons rfl (objLe.mk id id (rowLe_vals (valsLe.cons (cellsLe_refl rfl) valsLe.nil))) storeLe.nil) (slotsLe.cons (And.intro rfl (AV.Le.refl _)) (slotsLe.cons (And.intro rfl (AV.Le.refl _)) (slotsLe.cons (And.intro rfl (AV.Le.refl _)) (slotsLe.cons (And.intro rfl (AV.Le.refl _)) (slotsLe.cons (And.intro rfl (AV.Le.refl _)) (slotsLe.cons (And.intro rfl (AV.Le.refl _)) slotsLe.nil)))))))
                    · ((conv=>whnf);repeat((first|refine Ta ?_|refine Tz mix ?_|refine Tc ?_|refine Tb ?_|refine Td rfl ?_|refine Tl ?_|refine sE rfl ?_|refine dG (by kernel_rfl) ?_|fail);(conv=>whnf)))
                      refine bnd h67 (fun y34 hy34 h67 => ?_)
                      refine Or.inl ⟨_, c_decomp_korean _ _ hy34, rfl, ?_⟩
                      have e := Option.some.inj h67; subst e
                      ((conv=>whnf);repeat((first|refine Ta ?_|refine Tz mix ?_|refine Tc ?_|refine Tb ?_|refine Td rfl ?_|refine Tl ?_|refine sE rfl ?_|refine dG (by kernel_rfl) ?_|fail);(conv=>whnf)))
                      exact hn67 _ y34 h30_ (weak_gen [0] rfl rfl (storeLe.cons rfl (objLe.mk id id (rowLe_vals (valsLe.cons (cellsLe_refl rfl) valsLe.nil))) storeLe.nil) (slotsLe.cons (And.intro rfl (AV.Le.refl _)) (slotsLe.cons (And.intro rfl (AV.Le.refl _)) (slotsLe.cons (And.intro rfl (AV.Le.refl _)) (slotsLe.cons (And.intro rfl (AV.Le.refl _)) (slotsLe.cons (And.intro rfl (AV.Le.refl _)) (slotsLe.cons (And.intro rfl (AV.Le.refl _)) slotsLe.nil)))))))
                · clear h30_ h67
                  intro s31 hc70
                  ((conv=>whnf);repeat((first|refine Ta ?_|refine Tz mix ?_|refine Tc ?_|refine Tb ?_|refine Td rfl ?_|refine Tl ?_|refine sE rfl ?_|refine dG (by kernel_rfl) ?_|fail);(conv=>whnf)))
                  refine br_b rfl hc70 (fun c71 hc70 => ?_) (fun c71 hc70 => ?_)
                  · ((conv=>whnf);repeat((first|refine Ta ?_|refine Tz mix ?_|refine Tc ?_|refine Tb ?_|refine Td rfl ?_|refine Tl ?_|refine sE rfl ?_|refine dG (by kernel_rfl) ?_|fail);(conv=>whnf)))
                    refine bnd hc70 (fun y33 hy33 hc70 => ?_)
                    refine Or.inl ⟨_, c_decomp_fault _ _ _ hy33, rfl, ?_⟩
                    have e := Option.some.inj hc70; subst e
                    have e := done_out hs30; subst e
                    have e := Option.some.inj hc62; subst e
                    ((conv=>whnf);repeat((first|refine Ta ?_|refine Tz mix ?_|refine Tc ?_|refine Tb ?_|refine Td rfl ?_|refine Tl ?_|refine sE rfl ?_|refine dG (by kernel_rfl) ?_|fail);(conv=>whnf)))
                    exact And.intro (AV.Le.refl _) rfl
                  · have e := Option.some.inj hc70; subst e
                    ((conv=>whnf);repeat((first|refine Ta ?_|refine Tz mix ?_|refine Tc ?_|refine Tb ?_|refine Td rfl ?_|refine Tl ?_|refine sE rfl ?_|refine dG (by kernel_rfl) ?_|fail);(conv=>whnf)))
                    exact hn30 _ (IntKind.wrap .i64 (s28 + (1 : Int))) hs30 (weak_gen [0] rfl rfl (storeLe.cons rfl (objLe.mk id id (rowLe_vals (valsLe.cons (cellsLe_refl rfl) valsLe.nil))) storeLe.nil) (slotsLe.cons (And.intro rfl (AV.Le.refl _)) (slotsLe.cons (And.intro rfl (AV.Le.refl _)) (slotsLe.cons (And.intro rfl (AV.Le.refl _)) (slotsLe.cons (And.intro rfl (AV.Le.refl _)) slotsLe.nil)))))
              · have e := Option.some.inj h30_; subst e
                have e := done_out hs30; subst e
                ((conv=>whnf);repeat((first|refine Ta ?_|refine Tz mix ?_|refine Tc ?_|refine Tb ?_|refine Td rfl ?_|refine Tl ?_|refine sE rfl ?_|refine dG (by kernel_rfl) ?_|fail);(conv=>whnf)))
                exact hn65 _ () hc62 (weak_gen [0] rfl rfl (storeLe.cons rfl (objLe.mk id id (rowLe_vals (valsLe.cons (cellsLe_refl rfl) valsLe.nil))) storeLe.nil) (slotsLe.cons (And.intro rfl (AV.Le.refl _)) slotsLe.nil))
            · clear hc62 h65
              intro s10 hc72
              ((conv=>whnf);repeat((first|refine Ta ?_|refine Tz mix ?_|refine Tc ?_|refine Tb ?_|refine Td rfl ?_|refine Tl ?_|refine sE rfl ?_|refine dG (by kernel_rfl) ?_|fail);(conv=>whnf)))
              refine bnd hc72 (fun x73 h73 hc72 => ?_)
              refine cut_at (fun s12 : Unit => mkF 136 [(1, (.mp 0 0 0))] [some ⟨3, 40, (.vals [(e_api_Norm p_t)]), false, false⟩]) (fun s12 : Unit => m_decomp_Check_K13 p_t s12 = some r) ?_ ?_
              · intro Kn73 hn73
                ((conv=>whnf);repeat((first|refine Ta ?_|refine Tz mix ?_|refine Tc ?_|refine Tb ?_|refine Td rfl ?_|refine Tl ?_|refine sE rfl ?_|refine dG (by kernel_rfl) ?_|fail);(conv=>whnf)))
                refine loop_iter (fun s16 : Int => mkF 136 [(1, (.mp 0 0 0)), (103, (e_L_i32 p_t.f_Excluded)), (104, (.int .i64 ((p_t.f_Excluded.length : Nat) : Int))), (105, (.int .i64 s16))] [some ⟨3, 40, (.vals [(e_api_Norm p_t)]), false, false⟩]) h73 (weak_gen [0] rfl rfl (storeLe.cons rfl (objLe.mk id id (rowLe_vals (valsLe.cons (cellsLe_refl rfl) valsLe.nil))) storeLe.nil) (slotsLe.cons (And.intro rfl (AV.Le.refl _)) (slotsLe.cons (And.intro rfl (AV.Le.refl _)) (slotsLe.cons (And.intro rfl (AV.Le.refl _)) (slotsLe.cons (And.intro rfl (AV.Le.refl _)) slotsLe.nil))))) ?_
                intro k18 s16 st18 Kn18 hn18 h18_ hs18
                ((conv=>whnf);repeat((first|refine Ta ?_|refine Tz mix ?_|refine Tc ?_|refine Tb ?_|refine Td rfl ?_|refine Tl ?_|refine sE rfl ?_|refine dG (by kernel_rfl) ?_|fail);(conv=>whnf)))
                refine br_b rfl h18_ (fun c74 h18_ => ?_) (fun c74 h18_ => ?_)
                · ((conv=>whnf);repeat((first|refine Ta ?_|refine Tz mix ?_|refine Tc ?_|refine Tb ?_|refine Td rfl ?_|refine Tl ?_|refine sE rfl ?_|refine dG (by kernel_rfl) ?_|fail);(conv=>whnf)))
                  refine grd2 rfl rfl h18_ (fun h18_ => ?_)
                  ((conv=>whnf);repeat((first|refine Ta ?_|refine Tz mix ?_|refine Tc ?_|refine Tb ?_|refine Td rfl ?_|refine Tl ?_|refine sE rfl ?_|refine dG (by kernel_rfl) ?_|fail);(conv=>whnf)))
                  refine bnd h18_ (fun y19 hy19 h18_ => ?_)
                  refine Or.inl ⟨_, c_utf_Right _ _ hy19, rfl, ?_⟩
                  ((conv=>whnf);repeat((first|refine Ta ?_|refine Tz mix ?_|refine Tc ?_|refine Tb ?_|refine Td rfl ?_|refine Tl ?_|refine sE rfl ?_|refine dG (by kernel_rfl) ?_|fail);(conv=>whnf)))
                  refine br_b rfl h18_ (fun c75 h18_ => ?_) (fun c75 h18_ => ?_)
                  · ((conv=>whnf);repeat((first|refine Ta ?_|refine Tz mix ?_|refine Tc ?_|refine Tb ?_|refine Td rfl ?_|refine Tl ?_|refine sE rfl ?_|refine dG (by kernel_rfl) ?_|fail);(conv=>whnf)))
                    refine bnd h18_ (fun y20 hy20 h18_ => ?_)
                    refine Or.inl ⟨_, c_decomp_fault _ _ _ hy20, rfl, ?_⟩
                    have e := Option.some.inj h18_; subst e
                    have e := done_out hs18; subst e
                    have e := Option.some.inj hc72; subst e
                    ((conv=>whnf);repeat((first|refine Ta ?_|refine Tz mix ?_|refine Tc ?_|refine Tb ?_|refine Td rfl ?_|refine Tl ?_|refine sE rfl ?_|refine dG (by kernel_rfl) ?_|fail);(conv=>whnf)))
                    exact And.intro (AV.Le.refl _) rfl
                  · ((conv=>whnf);repeat((first|refine Ta ?_|refine Tz mix ?_|refine Tc ?_|refine Tb ?_|refine Td rfl ?_|refine Tl ?_|refine sE rfl ?_|refine dG (by kernel_rfl) ?_|fail);(conv=>whnf)))
                    refine bnd h18_ (fun x76 h76 h18_ => ?_)
                    refine cut_at (fun s21 : Bool => mkF 136 [(1, (.mp 0 0 0)), (10, (.int .i64 s16)), (103, (e_L_i32 p_t.f_Excluded)), (104, (.int .i64 ((p_t.f_Excluded.length : Nat) : Int))), (105, (.int .i64 s16)), (117, (.bool s21))] [some ⟨3, 40, (.vals [(e_api_Norm p_t)]), false, false⟩]) (fun s21 : Bool => m_decomp_Check_K22 s16 s21 = some st18) ?_ ?_
                    · intro Kn76 hn76
                      ((conv=>whnf);repeat((first|refine Ta ?_|refine Tz mix ?_|refine Tc ?_|refine Tb ?_|refine Td rfl ?_|refine Tl ?_|refine sE rfl ?_|refine dG (by kernel_rfl) ?_|fail);(conv=>whnf)))
                      refine br_b rfl h76 (fun c77 h76 => ?_) (fun c77 h76 => ?_)
                      · ((conv=>whnf);repeat((first|refine Ta ?_|refine Tz mix ?_|refine Tc ?_|refine Tb ?_|refine Td rfl ?_|refine Tl ?_|refine sE rfl ?_|refine dG (by kernel_rfl) ?_|fail);(conv=>whnf)))
                        refine grd2 rfl rfl h76 (fun h76 => ?_)
                        have e := Option.some.inj h76; subst e
                        ((conv=>whnf);repeat((first|refine Ta ?_|refine Tz mix ?_|refine Tc ?_|refine Tb ?_|refine Td rfl ?_|refine Tl ?_|refine sE rfl ?_|refine dG (by kernel_rfl) ?_|fail);(conv=>whnf)))
                        exact hn76 _ (decide ((p_t.f_Excluded.getD (s16.toNat) 0) ≤ (p_t.f_Excluded.getD ((IntKind.wrap .i64 (s16 - (1 : Int))).toNat) 0))) h18_ (weak_gen [0] rfl rfl (storeLe.cons rfl (objLe.mk id id (rowLe_vals (valsLe.cons (cellsLe_refl rfl) valsLe.nil))) storeLe.nil) (slotsLe.cons (And.intro rfl (AV.Le.refl _)) (slotsLe.cons (And.intro rfl (AV.Le.refl _)) (slotsLe.cons (And.intro rfl (AV.Le.refl _)) (slotsLe.cons (And.intro rfl (AV.Le.refl _)) (slotsLe.cons (And.intro rfl (AV.Le.refl _)) (slotsLe.cons (And.intro rfl (AV.Le.refl _)) slotsLe.nil)))))))
                      · have e := Option.some.inj h76; subst e
                        ((conv=>whnf);repeat((first|refine Ta ?_|refine Tz mix ?_|refine Tc ?_|refine Tb ?_|refine Td rfl ?_|refine Tl ?_|refine sE rfl ?_|refine dG (by kernel_rfl) ?_|fail);(conv=>whnf)))
                        exact hn76 _ false h18_ (weak_gen [0] rfl rfl (storeLe.cons rfl (objLe.mk id id (rowLe_vals (valsLe.cons (cellsLe_refl rfl) valsLe.nil))) storeLe.nil) (slotsLe.cons (And.intro rfl (AV.Le.refl _)) (slotsLe.cons (And.intro rfl (AV.Le.refl _)) (slotsLe.cons (And.intro rfl (AV.Le.refl _)) (slotsLe.cons (And.intro rfl (AV.Le.refl _)) (slotsLe.cons (And.intro rfl (AV.Le.refl _)) (slotsLe.cons (And.intro rfl (AV.Le.refl _)) slotsLe.nil)))))))
                    · clear h18_ h76
                      intro s21 hc78
                      ((conv=>whnf);repeat((first|refine Ta ?_|refine Tz mix ?_|refine Tc ?_|refine Tb ?_|refine Td rfl ?_|refine Tl ?_|refine sE rfl ?_|refine dG (by kernel_rfl) ?_|fail);(conv=>whnf)))
                      refine br_b rfl hc78 (fun c79 hc78 => ?_) (fun c79 hc78 => ?_)
                      · ((conv=>whnf);repeat((first|refine Ta ?_|refine Tz mix ?_|refine Tc ?_|refine Tb ?_|refine Td rfl ?_|refine Tl ?_|refine sE rfl ?_|refine dG (by kernel_rfl) ?_|fail);(conv=>whnf)))
                        refine bnd hc78 (fun y23 hy23 hc78 => ?_)
                        refine Or.inl ⟨_, c_decomp_fault _ _ _ hy23, rfl, ?_⟩
                        have e := Option.some.inj hc78; subst e
                        have e := done_out hs18; subst e
                        have e := Option.some.inj hc72; subst e
                        ((conv=>whnf);repeat((first|refine Ta ?_|refine Tz mix ?_|refine Tc ?_|refine Tb ?_|refine Td rfl ?_|refine Tl ?_|refine sE rfl ?_|refine dG (by kernel_rfl) ?_|fail);(conv=>whnf)))
                        exact And.intro (AV.Le.refl _) rfl
                      · have e := Option.some.inj hc78; subst e
                        ((conv=>whnf);repeat((first|refine Ta ?_|refine Tz mix ?_|refine Tc ?_|refine Tb ?_|refine Td rfl ?_|refine Tl ?_|refine sE rfl ?_|refine dG (by kernel_rfl) ?_|fail);(conv=>whnf)))
                        exact hn18 _ (IntKind.wrap .i64 (s16 + (1 : Int))) hs18 (weak_gen [0] rfl rfl (storeLe.cons rfl (objLe.mk id id (rowLe_vals (valsLe.cons (cellsLe_refl rfl) valsLe.nil))) storeLe.nil) (slotsLe.cons (And.intro rfl (AV.Le.refl _)) (slotsLe.cons (And.intro rfl (AV.Le.refl _)) (slotsLe.cons (And.intro rfl (AV.Le.refl _)) (slotsLe.cons (And.intro rfl (AV.Le.refl _)) slotsLe.nil)))))
                · have e := Option.some.inj h18_; subst e
                  have e := done_out hs18; subst e
                  ((conv=>whnf);repeat((first|refine Ta ?_|refine Tz mix ?_|refine Tc ?_|refine Tb ?_|refine Td rfl ?_|refine Tl ?_|refine sE rfl ?_|refine dG (by kernel_rfl) ?_|fail);(conv=>whnf)))
                  exact hn73 _ () hc72 (weak_gen [0] rfl rfl (storeLe.cons rfl (objLe.mk id id (rowLe_vals (valsLe.cons (cellsLe_refl rfl) valsLe.nil))) storeLe.nil) (slotsLe.cons (And.intro rfl (AV.Le.refl _)) slotsLe.nil))
              · clear hc72 h73
                intro s12 hc80
                ((conv=>whnf);repeat((first|refine Ta ?_|refine Tz mix ?_|refine Tc ?_|refine Tb ?_|refine Td rfl ?_|refine Tl ?_|refine sE rfl ?_|refine dG (by kernel_rfl) ?_|fail);(conv=>whnf)))
                refine bnd hc80 (fun y14 hy14 hc80 => ?_)
                refine Or.inl ⟨_, c_decomp_twice _ _ hy14, rfl, ?_⟩
                have e := Option.some.inj hc80; subst e
                ((conv=>whnf);repeat((first|refine Ta ?_|refine Tz mix ?_|refine Tc ?_|refine Tb ?_|refine Td rfl ?_|refine Tl ?_|refine sE rfl ?_|refine dG (by kernel_rfl) ?_|fail);(conv=>whnf)))
                exact And.intro (AV.Le.refl _) rfl
theorem c_slices_Reverse_rune_rune_own (p_s : (List Int)) (r : (List Int)) (h : m_slices_Reverse_rune_rune_own p_s = some r) : ContractM 1 pl 88 [(.ms 0 p_s.length)] [some ⟨1, 21, (.ints .i32 p_s), false, true⟩] (.tup []) [some ⟨1, 21, (.ints .i32 r), false, true⟩] := by
  refine contract_own 1 .z rfl Tryd.func88 rfl (by kernel_rfl) ?_
  ((conv=>whnf);repeat((first|refine Ta ?_|refine Tz mix ?_|refine Tc ?_|refine Tb ?_|refine Td rfl ?_|refine Tl ?_|refine sE rfl ?_|refine dG (by kernel_rfl) ?_|fail);(conv=>whnf)))
  refine bnd h (fun x4 hx4 h => ?_)
  refine loop_iter (fun s2 : (List Int) × Int × Int => mkF 28 [(0, (.ms 0 s2.1.length)), (2, (.int .i64 s2.2.1)), (3, (.int .i64 s2.2.2))] [some ⟨1, 21, (.ints .i32 s2.1), false, true⟩]) hx4 (weak_gen [0] rfl rfl (storeLe.cons rfl (objLe.mk id id (rowLe_ints (by first | rfl | simp))) storeLe.nil) (slotsLe.cons (And.intro rfl (AV.Le.of_eq (congrArg (AV.ms _) (by first | rfl | omega | (simp; omega) | simp)))) (slotsLe.cons (And.intro rfl (AV.Le.refl _)) (slotsLe.cons (And.intro rfl (AV.Le.refl _)) slotsLe.nil)))) ?_
  intro k4 s2 st4 Kn4 hn4 h4 hs4
  ((conv=>whnf);repeat((first|refine Ta ?_|refine Tz mix ?_|refine Tc ?_|refine Tb ?_|refine Td rfl ?_|refine Tl ?_|refine sE rfl ?_|refine dG (by kernel_rfl) ?_|fail);(conv=>whnf)))
  refine br_b rfl h4 (fun c6 h4 => ?_) (fun c6 h4 => ?_)
  · ((conv=>whnf);repeat((first|refine Ta ?_|refine Tz mix ?_|refine Tc ?_|refine Tb ?_|refine Td rfl ?_|refine Tl ?_|refine sE rfl ?_|refine dG (by kernel_rfl) ?_|fail);(conv=>whnf)))
    refine grd2 rfl rfl h4 (fun h4 => ?_)
    ((conv=>whnf);repeat((first|refine Ta ?_|refine Tz mix ?_|refine Tc ?_|refine Tb ?_|refine Td rfl ?_|refine Tl ?_|refine sE rfl ?_|refine dG (by kernel_rfl) ?_|fail);(conv=>whnf)))
    refine grd2 rfl rfl h4 (fun h4 => ?_)
    ((conv=>whnf);repeat((first|refine Ta ?_|refine Tz mix ?_|refine Tc ?_|refine Tb ?_|refine Td rfl ?_|refine Tl ?_|refine sE rfl ?_|refine dG (by kernel_rfl) ?_|fail);(conv=>whnf)))
    refine grd2 rfl rfl h4 (fun h4 => ?_)
    ((conv=>whnf);repeat((first|refine Ta ?_|refine Tz mix ?_|refine Tc ?_|refine Tb ?_|refine Td rfl ?_|refine Tl ?_|refine sE rfl ?_|refine dG (by kernel_rfl) ?_|fail);(conv=>whnf)))
    refine grd2 rfl rfl h4 (fun h4 => ?_)
    have e := Option.some.inj h4; subst e
    ((conv=>whnf);repeat((first|refine Ta ?_|refine Tz mix ?_|refine Tc ?_|refine Tb ?_|refine Td rfl ?_|refine Tl ?_|refine sE rfl ?_|refine dG (by kernel_rfl) ?_|fail);(conv=>whnf)))
    exact hn4 _ (((s2.1.set (s2.2.1.toNat) (s2.1.getD (s2.2.2.toNat) 0)).set (s2.2.2.toNat) (s2.1.getD (s2.2.1.toNat) 0)), (IntKind.wrap .i64 (s2.2.1 + (1 : Int))), (IntKind.wrap .i64 (s2.2.2 - (1 : Int)))) hs4 (weak_gen [0] rfl rfl (storeLe.cons rfl (objLe.mk id id (rowLe_ints (by first | rfl | simp))) storeLe.nil) (slotsLe.cons (And.intro rfl (AV.Le.of_eq (congrArg (AV.ms _) (by first | rfl | omega | (simp; omega) | simp)))) (slotsLe.cons (And.intro rfl (AV.Le.refl _)) (slotsLe.cons (And.intro rfl (AV.Le.refl _)) slotsLe.nil))))
  · have e := Option.some.inj h4; subst e
    have e := done_out hs4; subst e
    have e := Option.some.inj h; subst e
    ((conv=>whnf);repeat((first|refine Ta ?_|refine Tz mix ?_|refine Tc ?_|refine Tb ?_|refine Td rfl ?_|refine Tl ?_|refine sE rfl ?_|refine dG (by kernel_rfl) ?_|fail);(conv=>whnf)))
    exact Or.inr (Or.inr (weak_gen [0] rfl rfl (storeLe.cons rfl (objLe.mk id id (rowLe_ints (by first | rfl | simp))) storeLe.nil) (slotsLe.cons (And.intro rfl (AV.Le.refl _)) slotsLe.nil)))
theorem c_decomp_One (p_t : T_api_Norm) (p_r : Int) (r : (List Int)) (h : m_decomp_One p_t p_r = some r) : Contract pl 33 [(e_api_Norm p_t), (AV.int .i32 p_r)] [] (e_L_i32 r) [] := by
  refine contract_of (.t false .z (.t false .z (.t false .z (.t true (.t false .z (.t false (.t false (.t false .z (.t false (.t false (.t false .z (.t false (.t true .z .z) .z)) .z) .z)) .z) .z)) .z)))) Tryd.func33 rfl (by kernel_rfl) ?_
  ((conv=>whnf);repeat((first|refine Ta ?_|refine Tz mix ?_|refine Tc ?_|refine Tb ?_|refine Td rfl ?_|refine Tl ?_|refine sE rfl ?_|refine dG (by kernel_rfl) ?_|fail);(conv=>whnf)))
  refine bnd h (fun y1 hy1 h => ?_)
  refine Or.inl ⟨_, c_decomp_hangul _ _ hy1, rfl, ?_⟩
  ((conv=>whnf);repeat((first|refine Ta ?_|refine Tz mix ?_|refine Tc ?_|refine Tb ?_|refine Td rfl ?_|refine Tl ?_|refine sE rfl ?_|refine dG (by kernel_rfl) ?_|fail);(conv=>whnf)))
  refine br_b rfl h (fun c13 h => ?_) (fun c13 h => ?_)
  · ((conv=>whnf);repeat((first|refine Ta ?_|refine Tz mix ?_|refine Tc ?_|refine Tb ?_|refine Td rfl ?_|refine Tl ?_|refine sE rfl ?_|refine dG (by kernel_rfl) ?_|fail);(conv=>whnf)))
    refine And.intro (by decide) ?_
    ((conv=>whnf);repeat((first|refine Ta ?_|refine Tz mix ?_|refine Tc ?_|refine Tb ?_|refine Td rfl ?_|refine Tl ?_|refine sE rfl ?_|refine dG (by kernel_rfl) ?_|fail);(conv=>whnf)))
    refine And.intro (by decide) ?_
    ((conv=>whnf);repeat((first|refine Ta ?_|refine Tz mix ?_|refine Tc ?_|refine Tb ?_|refine Td rfl ?_|refine Tl ?_|refine sE rfl ?_|refine dG (by kernel_rfl) ?_|fail);(conv=>whnf)))
    refine And.intro (by decide) ?_
    ((conv=>whnf);repeat((first|refine Ta ?_|refine Tz mix ?_|refine Tc ?_|refine Tb ?_|refine Td rfl ?_|refine Tl ?_|refine sE rfl ?_|refine dG (by kernel_rfl) ?_|fail);(conv=>whnf)))
    refine And.intro (by decide) ?_
    ((conv=>whnf);repeat((first|refine Ta ?_|refine Tz mix ?_|refine Tc ?_|refine Tb ?_|refine Td rfl ?_|refine Tl ?_|refine sE rfl ?_|refine dG (by kernel_rfl) ?_|fail);(conv=>whnf)))
    refine br_b rfl h (fun c14 h => ?_) (fun c14 h => ?_)
    · ((conv=>whnf);repeat((first|refine Ta ?_|refine Tz mix ?_|refine Tc ?_|refine Tb ?_|refine Td rfl ?_|refine Tl ?_|refine sE rfl ?_|refine dG (by kernel_rfl) ?_|fail);(conv=>whnf)))
      refine And.intro (by decide) ?_
      ((conv=>whnf);repeat((first|refine Ta ?_|refine Tz mix ?_|refine Tc ?_|refine Tb ?_|refine Td rfl ?_|refine Tl ?_|refine sE rfl ?_|refine dG (by kernel_rfl) ?_|fail);(conv=>whnf)))
      refine ⟨[], 1, (.ints .i32 [(IntKind.wrap .i32 (IntKind.wrap .i64 ((4519 : Int) + (Int.tmod (IntKind.wrap .i64 ((IntKind.wrap .i64 p_r) - (44032 : Int))) (28 : Int)))))]), ⟨by simp [Row.len] <;> omega, rfl, _, rfl, by simp [Row.len] <;> omega, fun j hj => .inl rfl⟩, trivial, fun j hj => rfl, ?_⟩
      conv => whnf
      refine ⟨by simp [Row.len]; try omega, by decide, by decide, ?_⟩
      have e := Option.some.inj h; subst e
      ((conv=>whnf);repeat((first|refine Ta ?_|refine Tz mix ?_|refine Tc ?_|refine Tb ?_|refine Td rfl ?_|refine Tl ?_|refine sE rfl ?_|refine dG (by kernel_rfl) ?_|fail);(conv=>whnf)))
      exact And.intro (AV.Le.list (by simp; try omega) (fun j hj => by first | rfl | rw [getD_sub hj] | (rw [getD_take hj]; simp) | simp)) rfl
    · have e := Option.some.inj h; subst e
      ((conv=>whnf);repeat((first|refine Ta ?_|refine Tz mix ?_|refine Tc ?_|refine Tb ?_|refine Td rfl ?_|refine Tl ?_|refine sE rfl ?_|refine dG (by kernel_rfl) ?_|fail);(conv=>whnf)))
      exact And.intro (AV.Le.list (by simp; try omega) (fun j hj => by first | rfl | rw [getD_sub hj] | (rw [getD_take hj]; simp) | simp)) rfl
  · ((conv=>whnf);repeat((first|refine Ta ?_|refine Tz mix ?_|refine Tc ?_|refine Tb ?_|refine Td rfl ?_|refine Tl ?_|refine sE rfl ?_|refine dG (by kernel_rfl) ?_|fail);(conv=>whnf)))
    refine bnd h (fun x15 h15 h => ?_)
    refine cut_at (fun s2 : Int × (List Int) => mkF 81 [(1, (.int .i32 s2.1)), (7, (.ms 0 s2.2.length))] [some ⟨1, 21, (.ints .i32 s2.2), false, true⟩]) (fun s2 : Int × (List Int) => m_decomp_One_K3 s2 = some r) ?_ ?_
    · intro Kn15 hn15
      ((conv=>whnf);repeat((first|refine Ta ?_|refine Tz mix ?_|refine Tc ?_|refine Tb ?_|refine Td rfl ?_|refine Tl ?_|refine sE rfl ?_|refine dG (by kernel_rfl) ?_|fail);(conv=>whnf)))
      refine loop_iter (fun s6 : Int × (List Int) × Int => mkF 81 [(1, (.int .i32 s6.1)), (2, (.mp 0 0 0)), (7, (.ms 1 s6.2.1.length)), (8, (.int .i64 s6.2.2))] [some ⟨3, 40, (.vals [(e_api_Norm p_t)]), false, false⟩, some ⟨1, 21, (.ints .i32 s6.2.1), false, true⟩]) h15 (weak_trans (weak_nil 7 1 21 (.ints .i32 []) _ rfl rfl trivial (Nat.zero_le _)) (weak_gen [0, 1] rfl rfl (storeLe.cons rfl (objLe.mk id id (rowLe_vals (valsLe.cons (cellsLe_refl rfl) valsLe.nil))) (storeLe.cons rfl (objLe.mk id id (rowLe_ints (by first | rfl | simp))) storeLe.nil)) (slotsLe.cons (And.intro rfl (AV.Le.refl _)) (slotsLe.cons (And.intro rfl (AV.Le.refl _)) (slotsLe.cons (And.intro rfl (AV.Le.refl _)) (slotsLe.cons (And.intro rfl (AV.Le.refl _)) slotsLe.nil)))))) ?_
      intro k8 s6 st8 Kn8 hn8 h8_ hs8
      ((conv=>whnf);repeat((first|refine Ta ?_|refine Tz mix ?_|refine Tc ?_|refine Tb ?_|refine Td rfl ?_|refine Tl ?_|refine sE rfl ?_|refine dG (by kernel_rfl) ?_|fail);(conv=>whnf)))
      refine br_b rfl h8_ (fun c16 h8_ => ?_) (fun c16 h8_ => ?_)
      · ((conv=>whnf);repeat((first|refine Ta ?_|refine Tz mix ?_|refine Tc ?_|refine Tb ?_|refine Td rfl ?_|refine Tl ?_|refine sE rfl ?_|refine dG (by kernel_rfl) ?_|fail);(conv=>whnf)))
        refine bnd h8_ (fun y9 hy9 h8_ => ?_)
        refine Or.inl ⟨_, c_decomp_find _ _ _ hy9, rfl, ?_⟩
        ((conv=>whnf);repeat((first|refine Ta ?_|refine Tz mix ?_|refine Tc ?_|refine Tb ?_|refine Td rfl ?_|refine Tl ?_|refine sE rfl ?_|refine dG (by kernel_rfl) ?_|fail);(conv=>whnf)))
        refine bnd h8_ (fun x17 h17 h8_ => ?_)
        refine cut_at (fun s10 : Bool => mkF 81 [(1, (.int .i32 s6.1)), (2, (.mp 0 0 0)), (7, (.ms 1 s6.2.1.length)), (8, (.int .i64 s6.2.2)), (9, (.int .i64 y9)), (56, (.bool s10))] [some ⟨3, 40, (.vals [(e_api_Norm p_t)]), false, false⟩, some ⟨1, 21, (.ints .i32 s6.2.1), false, true⟩]) (fun s10 : Bool => m_decomp_One_K11 p_t s6 y9 s10 = some st8) ?_ ?_
        · intro Kn17 hn17
          ((conv=>whnf);repeat((first|refine Ta ?_|refine Tz mix ?_|refine Tc ?_|refine Tb ?_|refine Td rfl ?_|refine Tl ?_|refine sE rfl ?_|refine dG (by kernel_rfl) ?_|fail);(conv=>whnf)))
          refine br_b rfl h17 (fun c18 h17 => ?_) (fun c18 h17 => ?_)
          · have e := Option.some.inj h17; subst e
            ((conv=>whnf);repeat((first|refine Ta ?_|refine Tz mix ?_|refine Tc ?_|refine Tb ?_|refine Td rfl ?_|refine Tl ?_|refine sE rfl ?_|refine dG (by kernel_rfl) ?_|fail);(conv=>whnf)))
            exact hn17 _ true h8_ (weak_gen [0, 1] rfl rfl (storeLe.cons rfl (objLe.mk id id (rowLe_vals (valsLe.cons (cellsLe_refl rfl) valsLe.nil))) (storeLe.cons rfl (objLe.mk id id (by first | exact rowLe_same fun _ _ _ => rfl | (simp; exact rowLe_same fun _ _ _ => rfl))) storeLe.nil)) (slotsLe.cons (And.intro rfl (AV.Le.refl _)) (slotsLe.cons (And.intro rfl (AV.Le.refl _)) (slotsLe.cons (And.intro rfl (AV.Le.of_eq (congrArg (AV.ms _) (by first | rfl | omega | (simp; omega) | simp)))) (slotsLe.cons (And.intro rfl (AV.Le.refl _)) (slotsLe.cons (And.intro rfl (AV.Le.refl _)) (slotsLe.cons (And.intro rfl (AV.Le.refl _)) slotsLe.nil)))))))
          · ((conv=>whnf);repeat((first|refine Ta ?_|refine Tz mix ?_|refine Tc ?_|refine Tb ?_|refine Td rfl ?_|refine Tl ?_|refine sE rfl ?_|refine dG (by kernel_rfl) ?_|fail);(conv=>whnf)))
            refine grd2 rfl rfl h17 (fun h17 => ?_)
            have e := Option.some.inj h17; subst e
            ((conv=>whnf);repeat((first|refine Ta ?_|refine Tz mix ?_|refine Tc ?_|refine Tb ?_|refine Td rfl ?_|refine Tl ?_|refine sE rfl ?_|refine dG (by kernel_rfl) ?_|fail);(conv=>whnf)))
            exact hn17 _ ((((p_t.f_Rows.getD (y9.toNat) d_api_Row).f_To.length : Nat) : Int) == (0 : Int)) h8_ (weak_gen [0, 1] rfl rfl (storeLe.cons rfl (objLe.mk id id (rowLe_vals (valsLe.cons (cellsLe_refl rfl) valsLe.nil))) (storeLe.cons rfl (objLe.mk id id (by first | exact rowLe_same fun _ _ _ => rfl | (simp; exact rowLe_same fun _ _ _ => rfl))) storeLe.nil)) (slotsLe.cons (And.intro rfl (AV.Le.refl _)) (slotsLe.cons (And.intro rfl (AV.Le.refl _)) (slotsLe.cons (And.intro rfl (AV.Le.of_eq (congrArg (AV.ms _) (by first | rfl | omega | (simp; omega) | simp)))) (slotsLe.cons (And.intro rfl (AV.Le.refl _)) (slotsLe.cons (And.intro rfl (AV.Le.refl _)) (slotsLe.cons (And.intro rfl (AV.Le.refl _)) slotsLe.nil)))))))
        · clear h8_ h17
          intro s10 hc19
          ((conv=>whnf);repeat((first|refine Ta ?_|refine Tz mix ?_|refine Tc ?_|refine Tb ?_|refine Td rfl ?_|refine Tl ?_|refine sE rfl ?_|refine dG (by kernel_rfl) ?_|fail);(conv=>whnf)))
          refine br_b rfl hc19 (fun c20 hc19 => ?_) (fun c20 hc19 => ?_)
          · have e := Option.some.inj hc19; subst e
            have e := done_out hs8; subst e
            ((conv=>whnf);repeat((first|refine Ta ?_|refine Tz mix ?_|refine Tc ?_|refine Tb ?_|refine Td rfl ?_|refine Tl ?_|refine sE rfl ?_|refine dG (by kernel_rfl) ?_|fail);(conv=>whnf)))
            exact hn15 _ (s6.1, s6.2.1) h (weak_gen [1] rfl rfl (storeLe.cons rfl (objLe.mk id id (rowLe_ints (by first | rfl | simp))) storeLe.nil) (slotsLe.cons (And.intro rfl (AV.Le.refl _)) (slotsLe.cons (And.intro rfl (AV.Le.of_eq (congrArg (AV.ms _) (by first | rfl | omega | (simp; omega) | simp)))) slotsLe.nil)))
          · ((conv=>whnf);repeat((first|refine Ta ?_|refine Tz mix ?_|refine Tc ?_|refine Tb ?_|refine Td rfl ?_|refine Tl ?_|refine sE rfl ?_|refine dG (by kernel_rfl) ?_|fail);(conv=>whnf)))
            refine grd2 rfl rfl hc19 (fun hc19 => ?_)
            ((conv=>whnf);repeat((first|refine Ta ?_|refine Tz mix ?_|refine Tc ?_|refine Tb ?_|refine Td rfl ?_|refine Tl ?_|refine sE rfl ?_|refine dG (by kernel_rfl) ?_|fail);(conv=>whnf)))
            refine br_b rfl hc19 (fun c21 hc19 => ?_) (fun c21 hc19 => ?_)
            · ((conv=>whnf);repeat((first|refine Ta ?_|refine Tz mix ?_|refine Tc ?_|refine Tb ?_|refine Td rfl ?_|refine Tl ?_|refine sE rfl ?_|refine dG (by kernel_rfl) ?_|fail);(conv=>whnf)))
              refine grd2 rfl rfl hc19 (fun hc19 => ?_)
              ((conv=>whnf);repeat((first|refine Ta ?_|refine Tz mix ?_|refine Tc ?_|refine Tb ?_|refine Td rfl ?_|refine Tl ?_|refine sE rfl ?_|refine dG (by kernel_rfl) ?_|fail);(conv=>whnf)))
              obtain ⟨p22, hc19⟩ := grdO hc19
              refine ⟨[], 1, (.ints .i32 [((p_t.f_Rows.getD (y9.toNat) d_api_Row).f_To.getD 1 0)]), ⟨by simp [Row.len] <;> omega, rfl, _, rfl, by simp [Row.len] <;> omega, fun j hj => .inl rfl⟩, trivial, fun j hj => rfl, ?_⟩
              conv => whnf
              refine ⟨by simp [Row.len]; try omega, p22, by omega, ?_⟩
              ((conv=>whnf);repeat((first|refine Ta ?_|refine Tz mix ?_|refine Tc ?_|refine Tb ?_|refine Td rfl ?_|refine Tl ?_|refine sE rfl ?_|refine dG (by kernel_rfl) ?_|fail);(conv=>whnf)))
              refine grd2 rfl rfl hc19 (fun hc19 => ?_)
              have e := Option.some.inj hc19; subst e
              ((conv=>whnf);repeat((first|refine Ta ?_|refine Tz mix ?_|refine Tc ?_|refine Tb ?_|refine Td rfl ?_|refine Tl ?_|refine sE rfl ?_|refine dG (by kernel_rfl) ?_|fail);(conv=>whnf)))
              exact hn8 _ (((p_t.f_Rows.getD (y9.toNat) d_api_Row).f_To.getD 0 0), (s6.2.1 ++ [((p_t.f_Rows.getD (y9.toNat) d_api_Row).f_To.getD 1 0)]), (IntKind.wrap .i64 (s6.2.2 + (1 : Int)))) hs8 (weak_gen [0, 3] rfl rfl (storeLe.cons rfl (objLe.mk id id (rowLe_vals (valsLe.cons (cellsLe_refl rfl) valsLe.nil))) (storeLe.cons rfl (objLe.mk id id (rowLe_ints (by first | rfl | simp))) storeLe.nil)) (slotsLe.cons (And.intro rfl (AV.Le.refl _)) (slotsLe.cons (And.intro rfl (AV.Le.refl _)) (slotsLe.cons (And.intro rfl (AV.Le.of_eq (congrArg (AV.ms _) (by first | rfl | omega | (simp; omega) | simp)))) (slotsLe.cons (And.intro rfl (AV.Le.refl _)) slotsLe.nil)))))
            · ((conv=>whnf);repeat((first|refine Ta ?_|refine Tz mix ?_|refine Tc ?_|refine Tb ?_|refine Td rfl ?_|refine Tl ?_|refine sE rfl ?_|refine dG (by kernel_rfl) ?_|fail);(conv=>whnf)))
              refine grd2 rfl rfl hc19 (fun hc19 => ?_)
              have e := Option.some.inj hc19; subst e
              ((conv=>whnf);repeat((first|refine Ta ?_|refine Tz mix ?_|refine Tc ?_|refine Tb ?_|refine Td rfl ?_|refine Tl ?_|refine sE rfl ?_|refine dG (by kernel_rfl) ?_|fail);(conv=>whnf)))
              exact hn8 _ (((p_t.f_Rows.getD (y9.toNat) d_api_Row).f_To.getD 0 0), s6.2.1, (IntKind.wrap .i64 (s6.2.2 + (1 : Int)))) hs8 (weak_gen [0, 1] rfl rfl (storeLe.cons rfl (objLe.mk id id (rowLe_vals (valsLe.cons (cellsLe_refl rfl) valsLe.nil))) (storeLe.cons rfl (objLe.mk id id (rowLe_ints (by first | rfl | simp))) storeLe.nil)) (slotsLe.cons (And.intro rfl (AV.Le.refl _)) (slotsLe.cons (And.intro rfl (AV.Le.refl _)) (slotsLe.cons (And.intro rfl (AV.Le.of_eq (congrArg (AV.ms _) (by first | rfl | omega | (simp; omega) | simp)))) (slotsLe.cons (And.intro rfl (AV.Le.refl _)) slotsLe.nil)))))
      · have e := Option.some.inj h8_; subst e
        have e := done_out hs8; subst e
        ((conv=>whnf);repeat((first|refine Ta ?_|refine Tz mix ?_|refine Tc ?_|refine Tb ?_|refine Td rfl ?_|refine Tl ?_|refine sE rfl ?_|refine dG (by kernel_rfl) ?_|fail);(conv=>whnf)))
        exact hn15 _ (s6.1, s6.2.1) h (weak_gen [1] rfl rfl (storeLe.cons rfl (objLe.mk id id (rowLe_ints (by first | rfl | simp))) storeLe.nil) (slotsLe.cons (And.intro rfl (AV.Le.refl _)) (slotsLe.cons (And.intro rfl (AV.Le.of_eq (congrArg (AV.ms _) (by first | rfl | omega | (simp; omega) | simp)))) slotsLe.nil)))
    · clear h h15
      intro s2 hc23
      ((conv=>whnf);repeat((first|refine Ta ?_|refine Tz mix ?_|refine Tc ?_|refine Tb ?_|refine Td rfl ?_|refine Tl ?_|refine sE rfl ?_|refine dG (by kernel_rfl) ?_|fail);(conv=>whnf)))
      refine bnd hc23 (fun y4 hy4 hc23 => ?_)
      refine Or.inr (own_intro (own_call [0] (c_slices_Reverse_rune_rune_own _ _ hy4) rfl (storeLe.cons rfl (objLe.mk id id (rowLe_ints (by first | rfl | simp))) storeLe.nil) (cellsLe.cons (And.intro rfl (AV.Le.of_eq (congrArg (AV.ms _) (by first | rfl | omega | (simp; omega) | simp)))) cellsLe.nil) rfl) ?_)
      ((conv=>whnf);repeat((first|refine Ta ?_|refine Tz mix ?_|refine Tc ?_|refine Tb ?_|refine Td rfl ?_|refine Tl ?_|refine sE rfl ?_|refine dG (by kernel_rfl) ?_|fail);(conv=>whnf)))
      obtain ⟨p24, hc23⟩ := grdO hc23
      ((conv=>whnf);repeat((first|refine Ta ?_|refine Tz mix ?_|refine Tc ?_|refine Tb ?_|refine Td rfl ?_|refine Tl ?_|refine sE rfl ?_|refine dG (by kernel_rfl) ?_|fail);(conv=>whnf)))
      obtain ⟨p25, hc23⟩ := grdO hc23
      refine ⟨[], s2.2.length, (.ints .i32 y4), ⟨by simp [Row.len] <;> omega, rfl, _, rfl, by simp [Row.len] <;> omega, fun j hj => .inl rfl⟩, trivial, fun j hj => rfl, ?_⟩
      conv => whnf
      refine ⟨by simp [Row.len]; try omega, p25, by omega, ?_⟩
      have e := Option.some.inj hc23; subst e
      ((conv=>whnf);repeat((first|refine Ta ?_|refine Tz mix ?_|refine Tc ?_|refine Tb ?_|refine Td rfl ?_|refine Tl ?_|refine sE rfl ?_|refine dG (by kernel_rfl) ?_|fail);(conv=>whnf)))
      exact And.intro (AV.Le.list (by simp; try omega) (fun j hj => by first | rfl | rw [getD_sub hj] | (rw [getD_take hj]; simp) | simp)) rfl
theorem c_eponymlaw01_Same (p_a : (List Int)) (p_b : (List Int)) (r : Bool) (h : m_eponymlaw01_Same p_a p_b = some r) : Contract pl 32 [(e_L_i32 p_a), (e_L_i32 p_b)] [] (AV.bool r) [] := by
  refine contract_of (.t false .z (.t false .z (.t true .z .z))) Tryd.func32 rfl (by kernel_rfl) ?_
  ((conv=>whnf);repeat((first|refine Ta ?_|refine Tz mix ?_|refine Tc ?_|refine Tb ?_|refine Td rfl ?_|refine Tl ?_|refine sE rfl ?_|refine dG (by kernel_rfl) ?_|fail);(conv=>whnf)))
  refine br_b rfl h (fun c10 h => ?_) (fun c10 h => ?_)
  · have e := Option.some.inj h; subst e
    ((conv=>whnf);repeat((first|refine Ta ?_|refine Tz mix ?_|refine Tc ?_|refine Tb ?_|refine Td rfl ?_|refine Tl ?_|refine sE rfl ?_|refine dG (by kernel_rfl) ?_|fail);(conv=>whnf)))
    exact And.intro (AV.Le.refl _) rfl
  · ((conv=>whnf);repeat((first|refine Ta ?_|refine Tz mix ?_|refine Tc ?_|refine Tb ?_|refine Td rfl ?_|refine Tl ?_|refine sE rfl ?_|refine dG (by kernel_rfl) ?_|fail);(conv=>whnf)))
    refine bnd h (fun x11 h11 h => ?_)
    refine cut_at (fun s1 : Unit => mkF 26 [] []) (fun s1 : Unit => some true = some r) ?_ ?_
    · intro Kn11 hn11
      ((conv=>whnf);repeat((first|refine Ta ?_|refine Tz mix ?_|refine Tc ?_|refine Tb ?_|refine Td rfl ?_|refine Tl ?_|refine sE rfl ?_|refine dG (by kernel_rfl) ?_|fail);(conv=>whnf)))
      refine loop_iter (fun s4 : Int => mkF 26 [(0, (e_L_i32 p_a)), (1, (e_L_i32 p_b)), (5, (.int .i64 s4))] []) h11 (weak_gen [] rfl rfl storeLe.nil (slotsLe.cons (And.intro rfl (AV.Le.refl _)) (slotsLe.cons (And.intro rfl (AV.Le.refl _)) (slotsLe.cons (And.intro rfl (AV.Le.refl _)) slotsLe.nil)))) ?_
      intro k6 s4 st6 Kn6 hn6 h6_ hs6
      ((conv=>whnf);repeat((first|refine Ta ?_|refine Tz mix ?_|refine Tc ?_|refine Tb ?_|refine Td rfl ?_|refine Tl ?_|refine sE rfl ?_|refine dG (by kernel_rfl) ?_|fail);(conv=>whnf)))
      refine br_b rfl h6_ (fun c12 h6_ => ?_) (fun c12 h6_ => ?_)
      · ((conv=>whnf);repeat((first|refine Ta ?_|refine Tz mix ?_|refine Tc ?_|refine Tb ?_|refine Td rfl ?_|refine Tl ?_|refine sE rfl ?_|refine dG (by kernel_rfl) ?_|fail);(conv=>whnf)))
        refine grd2 rfl rfl h6_ (fun h6_ => ?_)
        ((conv=>whnf);repeat((first|refine Ta ?_|refine Tz mix ?_|refine Tc ?_|refine Tb ?_|refine Td rfl ?_|refine Tl ?_|refine sE rfl ?_|refine dG (by kernel_rfl) ?_|fail);(conv=>whnf)))
        refine grd2 rfl rfl h6_ (fun h6_ => ?_)
        ((conv=>whnf);repeat((first|refine Ta ?_|refine Tz mix ?_|refine Tc ?_|refine Tb ?_|refine Td rfl ?_|refine Tl ?_|refine sE rfl ?_|refine dG (by kernel_rfl) ?_|fail);(conv=>whnf)))
        refine br_b rfl h6_ (fun c13 h6_ => ?_) (fun c13 h6_ => ?_)
        · have e := Option.some.inj h6_; subst e
          have e := done_out hs6; subst e
          have e := Option.some.inj h; subst e
          ((conv=>whnf);repeat((first|refine Ta ?_|refine Tz mix ?_|refine Tc ?_|refine Tb ?_|refine Td rfl ?_|refine Tl ?_|refine sE rfl ?_|refine dG (by kernel_rfl) ?_|fail);(conv=>whnf)))
          exact And.intro (AV.Le.refl _) rfl
        · have e := Option.some.inj h6_; subst e
          ((conv=>whnf);repeat((first|refine Ta ?_|refine Tz mix ?_|refine Tc ?_|refine Tb ?_|refine Td rfl ?_|refine Tl ?_|refine sE rfl ?_|refine dG (by kernel_rfl) ?_|fail);(conv=>whnf)))
          exact hn6 _ (IntKind.wrap .i64 (s4 + (1 : Int))) hs6 (weak_gen [] rfl rfl storeLe.nil (slotsLe.cons (And.intro rfl (AV.Le.refl _)) (slotsLe.cons (And.intro rfl (AV.Le.refl _)) (slotsLe.cons (And.intro rfl (AV.Le.refl _)) slotsLe.nil))))
      · have e := Option.some.inj h6_; subst e
        have e := done_out hs6; subst e
        ((conv=>whnf);repeat((first|refine Ta ?_|refine Tz mix ?_|refine Tc ?_|refine Tb ?_|refine Td rfl ?_|refine Tl ?_|refine sE rfl ?_|refine dG (by kernel_rfl) ?_|fail);(conv=>whnf)))
        exact hn11 _ () h (weak_gen [] rfl rfl storeLe.nil slotsLe.nil)
    · clear h h11
      intro s1 hc14
      have e := Option.some.inj hc14; subst e
      ((conv=>whnf);repeat((first|refine Ta ?_|refine Tz mix ?_|refine Tc ?_|refine Tb ?_|refine Td rfl ?_|refine Tl ?_|refine sE rfl ?_|refine dG (by kernel_rfl) ?_|fail);(conv=>whnf)))
      exact And.intro (AV.Le.refl _) rfl
theorem c_eponymlaw04_awake  (r : Bool) (h : m_eponymlaw04_awake  = some r) : Contract pl 29 [] [] (AV.bool r) [] := by
  refine contract_of .z Tryd.func29 rfl (by kernel_rfl) ?_
  ((conv=>whnf);repeat((first|refine Ta ?_|refine Tz mix ?_|refine Tc ?_|refine Tb ?_|refine Td rfl ?_|refine Tl ?_|refine sE rfl ?_|refine dG (by kernel_rfl) ?_|fail);(conv=>whnf)))
  refine bnd h (fun y1 hy1 h => ?_)
  refine Or.inl ⟨_, contract_le (c_decomp_Check _ _ hy1) (argsLe.cons (AV.Le.agg (argsLe.cons (AV.Le.lits (enc := fun x => (e_api_Row x)) d_api_Row rfl (litsLe.cons (argsLe.cons (AV.Le.refl _) (argsLe.cons (AV.Le.list (by simp; try omega) (fun j hj => by first | rfl | rw [getD_sub hj] | (rw [getD_take hj]; simp) | simp)) argsLe.nil)) rfl litsLe.nil)) (argsLe.cons (AV.Le.lits (enc := fun x => (e_api_Range x)) d_api_Range rfl (litsLe.cons (argsLe.cons (AV.Le.refl _) (argsLe.cons (AV.Le.refl _) (argsLe.cons (AV.Le.refl _) argsLe.nil))) rfl litsLe.nil)) (argsLe.cons (AV.Le.list rfl (fun j hj => absurd hj (Nat.not_lt_zero _))) argsLe.nil)))) argsLe.nil), rfl, ?_⟩
  ((conv=>whnf);repeat((first|refine Ta ?_|refine Tz mix ?_|refine Tc ?_|refine Tb ?_|refine Td rfl ?_|refine Tl ?_|refine sE rfl ?_|refine dG (by kernel_rfl) ?_|fail);(conv=>whnf)))
  refine br_b rfl h (fun c6 h => ?_) (fun c6 h => ?_)
  · ((conv=>whnf);repeat((first|refine Ta ?_|refine Tz mix ?_|refine Tc ?_|refine Tb ?_|refine Td rfl ?_|refine Tl ?_|refine sE rfl ?_|refine dG (by kernel_rfl) ?_|fail);(conv=>whnf)))
    refine bnd h (fun y2 hy2 h => ?_)
    refine Or.inl ⟨_, contract_le (c_decomp_One _ _ _ hy2) (argsLe.cons (AV.Le.agg (argsLe.cons (AV.Le.lits (enc := fun x => (e_api_Row x)) d_api_Row rfl (litsLe.cons (argsLe.cons (AV.Le.refl _) (argsLe.cons (AV.Le.list (by simp; try omega) (fun j hj => by first | rfl | rw [getD_sub hj] | (rw [getD_take hj]; simp) | simp)) argsLe.nil)) rfl litsLe.nil)) (argsLe.cons (AV.Le.lits (enc := fun x => (e_api_Range x)) d_api_Range rfl (litsLe.cons (argsLe.cons (AV.Le.refl _) (argsLe.cons (AV.Le.refl _) (argsLe.cons (AV.Le.refl _) argsLe.nil))) rfl litsLe.nil)) (argsLe.cons (AV.Le.list rfl (fun j hj => absurd hj (Nat.not_lt_zero _))) argsLe.nil)))) (argsLe.cons (AV.Le.refl _) argsLe.nil)), rfl, ?_⟩
    ((conv=>whnf);repeat((first|refine Ta ?_|refine Tz mix ?_|refine Tc ?_|refine Tb ?_|refine Td rfl ?_|refine Tl ?_|refine sE rfl ?_|refine dG (by kernel_rfl) ?_|fail);(conv=>whnf)))
    refine bnd h (fun y3 hy3 h => ?_)
    refine Or.inl ⟨_, contract_le (c_eponymlaw01_Same _ _ _ hy3) (argsLe.cons (AV.Le.refl _) (argsLe.cons (AV.Le.list (by simp; try omega) (fun j hj => by first | rfl | rw [getD_sub hj] | (rw [getD_take hj]; simp) | simp)) argsLe.nil)), rfl, ?_⟩
    ((conv=>whnf);repeat((first|refine Ta ?_|refine Tz mix ?_|refine Tc ?_|refine Tb ?_|refine Td rfl ?_|refine Tl ?_|refine sE rfl ?_|refine dG (by kernel_rfl) ?_|fail);(conv=>whnf)))
    refine br_b rfl h (fun c7 h => ?_) (fun c7 h => ?_)
    · ((conv=>whnf);repeat((first|refine Ta ?_|refine Tz mix ?_|refine Tc ?_|refine Tb ?_|refine Td rfl ?_|refine Tl ?_|refine sE rfl ?_|refine dG (by kernel_rfl) ?_|fail);(conv=>whnf)))
      refine bnd h (fun y4 hy4 h => ?_)
      refine Or.inl ⟨_, contract_le (c_decomp_One _ _ _ hy4) (argsLe.cons (AV.Le.agg (argsLe.cons (AV.Le.lits (enc := fun x => (e_api_Row x)) d_api_Row rfl (litsLe.cons (argsLe.cons (AV.Le.refl _) (argsLe.cons (AV.Le.list (by simp; try omega) (fun j hj => by first | rfl | rw [getD_sub hj] | (rw [getD_take hj]; simp) | simp)) argsLe.nil)) rfl litsLe.nil)) (argsLe.cons (AV.Le.lits (enc := fun x => (e_api_Range x)) d_api_Range rfl (litsLe.cons (argsLe.cons (AV.Le.refl _) (argsLe.cons (AV.Le.refl _) (argsLe.cons (AV.Le.refl _) argsLe.nil))) rfl litsLe.nil)) (argsLe.cons (AV.Le.list rfl (fun j hj => absurd hj (Nat.not_lt_zero _))) argsLe.nil)))) (argsLe.cons (AV.Le.refl _) argsLe.nil)), rfl, ?_⟩
      ((conv=>whnf);repeat((first|refine Ta ?_|refine Tz mix ?_|refine Tc ?_|refine Tb ?_|refine Td rfl ?_|refine Tl ?_|refine sE rfl ?_|refine dG (by kernel_rfl) ?_|fail);(conv=>whnf)))
      refine bnd h (fun y5 hy5 h => ?_)
      refine Or.inl ⟨_, contract_le (c_eponymlaw01_Same _ _ _ hy5) (argsLe.cons (AV.Le.refl _) (argsLe.cons (AV.Le.list (by simp; try omega) (fun j hj => by first | rfl | rw [getD_sub hj] | (rw [getD_take hj]; simp) | simp)) argsLe.nil)), rfl, ?_⟩
      have e := Option.some.inj h; subst e
      ((conv=>whnf);repeat((first|refine Ta ?_|refine Tz mix ?_|refine Tc ?_|refine Tb ?_|refine Td rfl ?_|refine Tl ?_|refine sE rfl ?_|refine dG (by kernel_rfl) ?_|fail);(conv=>whnf)))
      exact And.intro (AV.Le.refl _) rfl
    · have e := Option.some.inj h; subst e
      ((conv=>whnf);repeat((first|refine Ta ?_|refine Tz mix ?_|refine Tc ?_|refine Tb ?_|refine Td rfl ?_|refine Tl ?_|refine sE rfl ?_|refine dG (by kernel_rfl) ?_|fail);(conv=>whnf)))
      exact And.intro (AV.Le.refl _) rfl
  · have e := Option.some.inj h; subst e
    ((conv=>whnf);repeat((first|refine Ta ?_|refine Tz mix ?_|refine Tc ?_|refine Tb ?_|refine Td rfl ?_|refine Tl ?_|refine sE rfl ?_|refine dG (by kernel_rfl) ?_|fail);(conv=>whnf)))
    exact And.intro (AV.Le.refl _) rfl
theorem c_eponymlaw04_Great (p_t : T_api_Norm) (r : Bool) (h : m_eponymlaw04_Great p_t = some r) : Contract pl 30 [(e_api_Norm p_t)] [] (AV.bool r) [] := by
  refine contract_of (.t false .z (.t false (.t true .z .z) (.t true .z .z))) Tryd.func30 rfl (by kernel_rfl) ?_
  ((conv=>whnf);repeat((first|refine Ta ?_|refine Tz mix ?_|refine Tc ?_|refine Tb ?_|refine Td rfl ?_|refine Tl ?_|refine sE rfl ?_|refine dG (by kernel_rfl) ?_|fail);(conv=>whnf)))
  refine bnd h (fun x12 h12 h => ?_)
  refine cut_at (fun s1 : Bool => mkF 35 [(1, (.mp 0 0 0)), (19, (.bool s1))] [some ⟨3, 40, (.vals [(e_api_Norm p_t)]), false, false⟩]) (fun s1 : Bool => m_eponymlaw04_Great_K2 p_t s1 = some r) ?_ ?_
  · intro Kn12 hn12
    ((conv=>whnf);repeat((first|refine Ta ?_|refine Tz mix ?_|refine Tc ?_|refine Tb ?_|refine Td rfl ?_|refine Tl ?_|refine sE rfl ?_|refine dG (by kernel_rfl) ?_|fail);(conv=>whnf)))
    refine br_b rfl h12 (fun c13 h12 => ?_) (fun c13 h12 => ?_)
    · have e := Option.some.inj h12; subst e
      ((conv=>whnf);repeat((first|refine Ta ?_|refine Tz mix ?_|refine Tc ?_|refine Tb ?_|refine Td rfl ?_|refine Tl ?_|refine sE rfl ?_|refine dG (by kernel_rfl) ?_|fail);(conv=>whnf)))
      exact hn12 _ true h (weak_gen [0] rfl rfl (storeLe.cons rfl (objLe.mk id id (rowLe_vals (valsLe.cons (cellsLe_refl rfl) valsLe.nil))) storeLe.nil) (slotsLe.cons (And.intro rfl (AV.Le.refl _)) (slotsLe.cons (And.intro rfl (AV.Le.refl _)) slotsLe.nil)))
    · ((conv=>whnf);repeat((first|refine Ta ?_|refine Tz mix ?_|refine Tc ?_|refine Tb ?_|refine Td rfl ?_|refine Tl ?_|refine sE rfl ?_|refine dG (by kernel_rfl) ?_|fail);(conv=>whnf)))
      refine br_b rfl h12 (fun c14 h12 => ?_) (fun c14 h12 => ?_)
      · have e := Option.some.inj h12; subst e
        ((conv=>whnf);repeat((first|refine Ta ?_|refine Tz mix ?_|refine Tc ?_|refine Tb ?_|refine Td rfl ?_|refine Tl ?_|refine sE rfl ?_|refine dG (by kernel_rfl) ?_|fail);(conv=>whnf)))
        exact hn12 _ true h (weak_gen [0] rfl rfl (storeLe.cons rfl (objLe.mk id id (rowLe_vals (valsLe.cons (cellsLe_refl rfl) valsLe.nil))) storeLe.nil) (slotsLe.cons (And.intro rfl (AV.Le.refl _)) (slotsLe.cons (And.intro rfl (AV.Le.refl _)) slotsLe.nil)))
      · have e := Option.some.inj h12; subst e
        ((conv=>whnf);repeat((first|refine Ta ?_|refine Tz mix ?_|refine Tc ?_|refine Tb ?_|refine Td rfl ?_|refine Tl ?_|refine sE rfl ?_|refine dG (by kernel_rfl) ?_|fail);(conv=>whnf)))
        exact hn12 _ (decide (((p_t.f_Excluded.length : Nat) : Int) > (40 : Int))) h (weak_gen [0] rfl rfl (storeLe.cons rfl (objLe.mk id id (rowLe_vals (valsLe.cons (cellsLe_refl rfl) valsLe.nil))) storeLe.nil) (slotsLe.cons (And.intro rfl (AV.Le.refl _)) (slotsLe.cons (And.intro rfl (AV.Le.refl _)) slotsLe.nil)))
  · clear h h12
    intro s1 hc15
    ((conv=>whnf);repeat((first|refine Ta ?_|refine Tz mix ?_|refine Tc ?_|refine Tb ?_|refine Td rfl ?_|refine Tl ?_|refine sE rfl ?_|refine dG (by kernel_rfl) ?_|fail);(conv=>whnf)))
    refine br_b rfl hc15 (fun c16 hc15 => ?_) (fun c16 hc15 => ?_)
    · have e := Option.some.inj hc15; subst e
      ((conv=>whnf);repeat((first|refine Ta ?_|refine Tz mix ?_|refine Tc ?_|refine Tb ?_|refine Td rfl ?_|refine Tl ?_|refine sE rfl ?_|refine dG (by kernel_rfl) ?_|fail);(conv=>whnf)))
      exact And.intro (AV.Le.refl _) rfl
    · ((conv=>whnf);repeat((first|refine Ta ?_|refine Tz mix ?_|refine Tc ?_|refine Tb ?_|refine Td rfl ?_|refine Tl ?_|refine sE rfl ?_|refine dG (by kernel_rfl) ?_|fail);(conv=>whnf)))
      refine bnd hc15 (fun x17 h17 hc15 => ?_)
      refine cut_at (fun s3 : Unit => mkF 35 [] []) (fun s3 : Unit => some false = some r) ?_ ?_
      · intro Kn17 hn17
        ((conv=>whnf);repeat((first|refine Ta ?_|refine Tz mix ?_|refine Tc ?_|refine Tb ?_|refine Td rfl ?_|refine Tl ?_|refine sE rfl ?_|refine dG (by kernel_rfl) ?_|fail);(conv=>whnf)))
        refine loop_iter (fun s6 : Int => mkF 35 [(1, (.mp 0 0 0)), (3, (.int .i64 s6))] [some ⟨3, 40, (.vals [(e_api_Norm p_t)]), false, false⟩]) h17 (weak_gen [0] rfl rfl (storeLe.cons rfl (objLe.mk id id (rowLe_vals (valsLe.cons (cellsLe_refl rfl) valsLe.nil))) storeLe.nil) (slotsLe.cons (And.intro rfl (AV.Le.refl _)) (slotsLe.cons (And.intro rfl (AV.Le.refl _)) slotsLe.nil))) ?_
        intro k8 s6 st8 Kn8 hn8 h8_ hs8
        ((conv=>whnf);repeat((first|refine Ta ?_|refine Tz mix ?_|refine Tc ?_|refine Tb ?_|refine Td rfl ?_|refine Tl ?_|refine sE rfl ?_|refine dG (by kernel_rfl) ?_|fail);(conv=>whnf)))
        refine br_b rfl h8_ (fun c18 h8_ => ?_) (fun c18 h8_ => ?_)
        · ((conv=>whnf);repeat((first|refine Ta ?_|refine Tz mix ?_|refine Tc ?_|refine Tb ?_|refine Td rfl ?_|refine Tl ?_|refine sE rfl ?_|refine dG (by kernel_rfl) ?_|fail);(conv=>whnf)))
          refine grd2 rfl rfl h8_ (fun h8_ => ?_)
          ((conv=>whnf);repeat((first|refine Ta ?_|refine Tz mix ?_|refine Tc ?_|refine Tb ?_|refine Td rfl ?_|refine Tl ?_|refine sE rfl ?_|refine dG (by kernel_rfl) ?_|fail);(conv=>whnf)))
          refine br_b rfl h8_ (fun c19 h8_ => ?_) (fun c19 h8_ => ?_)
          · have e := Option.some.inj h8_; subst e
            have e := done_out hs8; subst e
            have e := Option.some.inj hc15; subst e
            ((conv=>whnf);repeat((first|refine Ta ?_|refine Tz mix ?_|refine Tc ?_|refine Tb ?_|refine Td rfl ?_|refine Tl ?_|refine sE rfl ?_|refine dG (by kernel_rfl) ?_|fail);(conv=>whnf)))
            exact And.intro (AV.Le.refl _) rfl
          · have e := Option.some.inj h8_; subst e
            ((conv=>whnf);repeat((first|refine Ta ?_|refine Tz mix ?_|refine Tc ?_|refine Tb ?_|refine Td rfl ?_|refine Tl ?_|refine sE rfl ?_|refine dG (by kernel_rfl) ?_|fail);(conv=>whnf)))
            exact hn8 _ (IntKind.wrap .i64 (s6 + (1 : Int))) hs8 (weak_gen [0] rfl rfl (storeLe.cons rfl (objLe.mk id id (rowLe_vals (valsLe.cons (cellsLe_refl rfl) valsLe.nil))) storeLe.nil) (slotsLe.cons (And.intro rfl (AV.Le.refl _)) (slotsLe.cons (And.intro rfl (AV.Le.refl _)) slotsLe.nil)))
        · have e := Option.some.inj h8_; subst e
          have e := done_out hs8; subst e
          ((conv=>whnf);repeat((first|refine Ta ?_|refine Tz mix ?_|refine Tc ?_|refine Tb ?_|refine Td rfl ?_|refine Tl ?_|refine sE rfl ?_|refine dG (by kernel_rfl) ?_|fail);(conv=>whnf)))
          exact hn17 _ () hc15 (weak_gen [] rfl rfl storeLe.nil slotsLe.nil)
      · clear hc15 h17
        intro s3 hc20
        have e := Option.some.inj hc20; subst e
        ((conv=>whnf);repeat((first|refine Ta ?_|refine Tz mix ?_|refine Tc ?_|refine Tb ?_|refine Td rfl ?_|refine Tl ?_|refine sE rfl ?_|refine dG (by kernel_rfl) ?_|fail);(conv=>whnf)))
        exact And.intro (AV.Le.refl _) rfl
theorem c_eponymref01_Right (p_r : Int) (r : Bool) (h : m_eponymref01_Right p_r = some r) : Contract pl 115 [(AV.int .i32 p_r)] [] (AV.bool r) [] := by
  refine contract_of .z Tryd.func115 rfl (by kernel_rfl) ?_
  ((conv=>whnf);repeat((first|refine Ta ?_|refine Tz mix ?_|refine Tc ?_|refine Tb ?_|refine Td rfl ?_|refine Tl ?_|refine sE rfl ?_|refine dG (by kernel_rfl) ?_|fail);(conv=>whnf)))
  refine br_b rfl h (fun c1 h => ?_) (fun c1 h => ?_)
  · ((conv=>whnf);repeat((first|refine Ta ?_|refine Tz mix ?_|refine Tc ?_|refine Tb ?_|refine Td rfl ?_|refine Tl ?_|refine sE rfl ?_|refine dG (by kernel_rfl) ?_|fail);(conv=>whnf)))
    refine br_b rfl h (fun c2 h => ?_) (fun c2 h => ?_)
    · ((conv=>whnf);repeat((first|refine Ta ?_|refine Tz mix ?_|refine Tc ?_|refine Tb ?_|refine Td rfl ?_|refine Tl ?_|refine sE rfl ?_|refine dG (by kernel_rfl) ?_|fail);(conv=>whnf)))
      refine br_b rfl h (fun c3 h => ?_) (fun c3 h => ?_)
      · have e := Option.some.inj h; subst e
        ((conv=>whnf);repeat((first|refine Ta ?_|refine Tz mix ?_|refine Tc ?_|refine Tb ?_|refine Td rfl ?_|refine Tl ?_|refine sE rfl ?_|refine dG (by kernel_rfl) ?_|fail);(conv=>whnf)))
        exact And.intro (AV.Le.refl _) rfl
      · have e := Option.some.inj h; subst e
        ((conv=>whnf);repeat((first|refine Ta ?_|refine Tz mix ?_|refine Tc ?_|refine Tb ?_|refine Td rfl ?_|refine Tl ?_|refine sE rfl ?_|refine dG (by kernel_rfl) ?_|fail);(conv=>whnf)))
        exact And.intro (AV.Le.refl _) rfl
    · have e := Option.some.inj h; subst e
      ((conv=>whnf);repeat((first|refine Ta ?_|refine Tz mix ?_|refine Tc ?_|refine Tb ?_|refine Td rfl ?_|refine Tl ?_|refine sE rfl ?_|refine dG (by kernel_rfl) ?_|fail);(conv=>whnf)))
      exact And.intro (AV.Le.refl _) rfl
  · have e := Option.some.inj h; subst e
    ((conv=>whnf);repeat((first|refine Ta ?_|refine Tz mix ?_|refine Tc ?_|refine Tb ?_|refine Td rfl ?_|refine Tl ?_|refine sE rfl ?_|refine dG (by kernel_rfl) ?_|fail);(conv=>whnf)))
    exact And.intro (AV.Le.refl _) rfl
theorem c_eponymref04_hangul (p_r : Int) (r : Bool) (h : m_eponymref04_hangul p_r = some r) : Contract pl 129 [(AV.int .i32 p_r)] [] (AV.bool r) [] := by
  refine contract_of .z Tryd.func129 rfl (by kernel_rfl) ?_
  ((conv=>whnf);repeat((first|refine Ta ?_|refine Tz mix ?_|refine Tc ?_|refine Tb ?_|refine Td rfl ?_|refine Tl ?_|refine sE rfl ?_|refine dG (by kernel_rfl) ?_|fail);(conv=>whnf)))
  refine br_b rfl h (fun c1 h => ?_) (fun c1 h => ?_)
  · ((conv=>whnf);repeat((first|refine Ta ?_|refine Tz mix ?_|refine Tc ?_|refine Tb ?_|refine Td rfl ?_|refine Tl ?_|refine sE rfl ?_|refine dG (by kernel_rfl) ?_|fail);(conv=>whnf)))
    refine br_b rfl h (fun c2 h => ?_) (fun c2 h => ?_)
    · have e := Option.some.inj h; subst e
      ((conv=>whnf);repeat((first|refine Ta ?_|refine Tz mix ?_|refine Tc ?_|refine Tb ?_|refine Td rfl ?_|refine Tl ?_|refine sE rfl ?_|refine dG (by kernel_rfl) ?_|fail);(conv=>whnf)))
      exact And.intro (AV.Le.refl _) rfl
    · ((conv=>whnf);repeat((first|refine Ta ?_|refine Tz mix ?_|refine Tc ?_|refine Tb ?_|refine Td rfl ?_|refine Tl ?_|refine sE rfl ?_|refine dG (by kernel_rfl) ?_|fail);(conv=>whnf)))
      refine br_b rfl h (fun c3 h => ?_) (fun c3 h => ?_)
      · ((conv=>whnf);repeat((first|refine Ta ?_|refine Tz mix ?_|refine Tc ?_|refine Tb ?_|refine Td rfl ?_|refine Tl ?_|refine sE rfl ?_|refine dG (by kernel_rfl) ?_|fail);(conv=>whnf)))
        refine br_b rfl h (fun c4 h => ?_) (fun c4 h => ?_)
        · have e := Option.some.inj h; subst e
          ((conv=>whnf);repeat((first|refine Ta ?_|refine Tz mix ?_|refine Tc ?_|refine Tb ?_|refine Td rfl ?_|refine Tl ?_|refine sE rfl ?_|refine dG (by kernel_rfl) ?_|fail);(conv=>whnf)))
          exact And.intro (AV.Le.refl _) rfl
        · ((conv=>whnf);repeat((first|refine Ta ?_|refine Tz mix ?_|refine Tc ?_|refine Tb ?_|refine Td rfl ?_|refine Tl ?_|refine sE rfl ?_|refine dG (by kernel_rfl) ?_|fail);(conv=>whnf)))
          refine br_b rfl h (fun c5 h => ?_) (fun c5 h => ?_)
          · ((conv=>whnf);repeat((first|refine Ta ?_|refine Tz mix ?_|refine Tc ?_|refine Tb ?_|refine Td rfl ?_|refine Tl ?_|refine sE rfl ?_|refine dG (by kernel_rfl) ?_|fail);(conv=>whnf)))
            refine br_b rfl h (fun c6 h => ?_) (fun c6 h => ?_)
            · have e := Option.some.inj h; subst e
              ((conv=>whnf);repeat((first|refine Ta ?_|refine Tz mix ?_|refine Tc ?_|refine Tb ?_|refine Td rfl ?_|refine Tl ?_|refine sE rfl ?_|refine dG (by kernel_rfl) ?_|fail);(conv=>whnf)))
              exact And.intro (AV.Le.refl _) rfl
            · ((conv=>whnf);repeat((first|refine Ta ?_|refine Tz mix ?_|refine Tc ?_|refine Tb ?_|refine Td rfl ?_|refine Tl ?_|refine sE rfl ?_|refine dG (by kernel_rfl) ?_|fail);(conv=>whnf)))
              refine br_b rfl h (fun c7 h => ?_) (fun c7 h => ?_)
              · have e := Option.some.inj h; subst e
                ((conv=>whnf);repeat((first|refine Ta ?_|refine Tz mix ?_|refine Tc ?_|refine Tb ?_|refine Td rfl ?_|refine Tl ?_|refine sE rfl ?_|refine dG (by kernel_rfl) ?_|fail);(conv=>whnf)))
                exact And.intro (AV.Le.refl _) rfl
              · have e := Option.some.inj h; subst e
                ((conv=>whnf);repeat((first|refine Ta ?_|refine Tz mix ?_|refine Tc ?_|refine Tb ?_|refine Td rfl ?_|refine Tl ?_|refine sE rfl ?_|refine dG (by kernel_rfl) ?_|fail);(conv=>whnf)))
                exact And.intro (AV.Le.refl _) rfl
          · ((conv=>whnf);repeat((first|refine Ta ?_|refine Tz mix ?_|refine Tc ?_|refine Tb ?_|refine Td rfl ?_|refine Tl ?_|refine sE rfl ?_|refine dG (by kernel_rfl) ?_|fail);(conv=>whnf)))
            refine br_b rfl h (fun c8 h => ?_) (fun c8 h => ?_)
            · have e := Option.some.inj h; subst e
              ((conv=>whnf);repeat((first|refine Ta ?_|refine Tz mix ?_|refine Tc ?_|refine Tb ?_|refine Td rfl ?_|refine Tl ?_|refine sE rfl ?_|refine dG (by kernel_rfl) ?_|fail);(conv=>whnf)))
              exact And.intro (AV.Le.refl _) rfl
            · have e := Option.some.inj h; subst e
              ((conv=>whnf);repeat((first|refine Ta ?_|refine Tz mix ?_|refine Tc ?_|refine Tb ?_|refine Td rfl ?_|refine Tl ?_|refine sE rfl ?_|refine dG (by kernel_rfl) ?_|fail);(conv=>whnf)))
              exact And.intro (AV.Le.refl _) rfl
      · ((conv=>whnf);repeat((first|refine Ta ?_|refine Tz mix ?_|refine Tc ?_|refine Tb ?_|refine Td rfl ?_|refine Tl ?_|refine sE rfl ?_|refine dG (by kernel_rfl) ?_|fail);(conv=>whnf)))
        refine br_b rfl h (fun c9 h => ?_) (fun c9 h => ?_)
        · ((conv=>whnf);repeat((first|refine Ta ?_|refine Tz mix ?_|refine Tc ?_|refine Tb ?_|refine Td rfl ?_|refine Tl ?_|refine sE rfl ?_|refine dG (by kernel_rfl) ?_|fail);(conv=>whnf)))
          refine br_b rfl h (fun c10 h => ?_) (fun c10 h => ?_)
          · have e := Option.some.inj h; subst e
            ((conv=>whnf);repeat((first|refine Ta ?_|refine Tz mix ?_|refine Tc ?_|refine Tb ?_|refine Td rfl ?_|refine Tl ?_|refine sE rfl ?_|refine dG (by kernel_rfl) ?_|fail);(conv=>whnf)))
            exact And.intro (AV.Le.refl _) rfl
          · ((conv=>whnf);repeat((first|refine Ta ?_|refine Tz mix ?_|refine Tc ?_|refine Tb ?_|refine Td rfl ?_|refine Tl ?_|refine sE rfl ?_|refine dG (by kernel_rfl) ?_|fail);(conv=>whnf)))
            refine br_b rfl h (fun c11 h => ?_) (fun c11 h => ?_)
            · have e := Option.some.inj h; subst e
              ((conv=>whnf);repeat((first|refine Ta ?_|refine Tz mix ?_|refine Tc ?_|refine Tb ?_|refine Td rfl ?_|refine Tl ?_|refine sE rfl ?_|refine dG (by kernel_rfl) ?_|fail);(conv=>whnf)))
              exact And.intro (AV.Le.refl _) rfl
            · have e := Option.some.inj h; subst e
              ((conv=>whnf);repeat((first|refine Ta ?_|refine Tz mix ?_|refine Tc ?_|refine Tb ?_|refine Td rfl ?_|refine Tl ?_|refine sE rfl ?_|refine dG (by kernel_rfl) ?_|fail);(conv=>whnf)))
              exact And.intro (AV.Le.refl _) rfl
        · ((conv=>whnf);repeat((first|refine Ta ?_|refine Tz mix ?_|refine Tc ?_|refine Tb ?_|refine Td rfl ?_|refine Tl ?_|refine sE rfl ?_|refine dG (by kernel_rfl) ?_|fail);(conv=>whnf)))
          refine br_b rfl h (fun c12 h => ?_) (fun c12 h => ?_)
          · have e := Option.some.inj h; subst e
            ((conv=>whnf);repeat((first|refine Ta ?_|refine Tz mix ?_|refine Tc ?_|refine Tb ?_|refine Td rfl ?_|refine Tl ?_|refine sE rfl ?_|refine dG (by kernel_rfl) ?_|fail);(conv=>whnf)))
            exact And.intro (AV.Le.refl _) rfl
          · have e := Option.some.inj h; subst e
            ((conv=>whnf);repeat((first|refine Ta ?_|refine Tz mix ?_|refine Tc ?_|refine Tb ?_|refine Td rfl ?_|refine Tl ?_|refine sE rfl ?_|refine dG (by kernel_rfl) ?_|fail);(conv=>whnf)))
            exact And.intro (AV.Le.refl _) rfl
  · ((conv=>whnf);repeat((first|refine Ta ?_|refine Tz mix ?_|refine Tc ?_|refine Tb ?_|refine Td rfl ?_|refine Tl ?_|refine sE rfl ?_|refine dG (by kernel_rfl) ?_|fail);(conv=>whnf)))
    refine br_b rfl h (fun c13 h => ?_) (fun c13 h => ?_)
    · ((conv=>whnf);repeat((first|refine Ta ?_|refine Tz mix ?_|refine Tc ?_|refine Tb ?_|refine Td rfl ?_|refine Tl ?_|refine sE rfl ?_|refine dG (by kernel_rfl) ?_|fail);(conv=>whnf)))
      refine br_b rfl h (fun c14 h => ?_) (fun c14 h => ?_)
      · have e := Option.some.inj h; subst e
        ((conv=>whnf);repeat((first|refine Ta ?_|refine Tz mix ?_|refine Tc ?_|refine Tb ?_|refine Td rfl ?_|refine Tl ?_|refine sE rfl ?_|refine dG (by kernel_rfl) ?_|fail);(conv=>whnf)))
        exact And.intro (AV.Le.refl _) rfl
      · ((conv=>whnf);repeat((first|refine Ta ?_|refine Tz mix ?_|refine Tc ?_|refine Tb ?_|refine Td rfl ?_|refine Tl ?_|refine sE rfl ?_|refine dG (by kernel_rfl) ?_|fail);(conv=>whnf)))
        refine br_b rfl h (fun c15 h => ?_) (fun c15 h => ?_)
        · ((conv=>whnf);repeat((first|refine Ta ?_|refine Tz mix ?_|refine Tc ?_|refine Tb ?_|refine Td rfl ?_|refine Tl ?_|refine sE rfl ?_|refine dG (by kernel_rfl) ?_|fail);(conv=>whnf)))
          refine br_b rfl h (fun c16 h => ?_) (fun c16 h => ?_)
          · have e := Option.some.inj h; subst e
            ((conv=>whnf);repeat((first|refine Ta ?_|refine Tz mix ?_|refine Tc ?_|refine Tb ?_|refine Td rfl ?_|refine Tl ?_|refine sE rfl ?_|refine dG (by kernel_rfl) ?_|fail);(conv=>whnf)))
            exact And.intro (AV.Le.refl _) rfl
          · ((conv=>whnf);repeat((first|refine Ta ?_|refine Tz mix ?_|refine Tc ?_|refine Tb ?_|refine Td rfl ?_|refine Tl ?_|refine sE rfl ?_|refine dG (by kernel_rfl) ?_|fail);(conv=>whnf)))
            refine br_b rfl h (fun c17 h => ?_) (fun c17 h => ?_)
            · have e := Option.some.inj h; subst e
              ((conv=>whnf);repeat((first|refine Ta ?_|refine Tz mix ?_|refine Tc ?_|refine Tb ?_|refine Td rfl ?_|refine Tl ?_|refine sE rfl ?_|refine dG (by kernel_rfl) ?_|fail);(conv=>whnf)))
              exact And.intro (AV.Le.refl _) rfl
            · have e := Option.some.inj h; subst e
              ((conv=>whnf);repeat((first|refine Ta ?_|refine Tz mix ?_|refine Tc ?_|refine Tb ?_|refine Td rfl ?_|refine Tl ?_|refine sE rfl ?_|refine dG (by kernel_rfl) ?_|fail);(conv=>whnf)))
              exact And.intro (AV.Le.refl _) rfl
        · ((conv=>whnf);repeat((first|refine Ta ?_|refine Tz mix ?_|refine Tc ?_|refine Tb ?_|refine Td rfl ?_|refine Tl ?_|refine sE rfl ?_|refine dG (by kernel_rfl) ?_|fail);(conv=>whnf)))
          refine br_b rfl h (fun c18 h => ?_) (fun c18 h => ?_)
          · have e := Option.some.inj h; subst e
            ((conv=>whnf);repeat((first|refine Ta ?_|refine Tz mix ?_|refine Tc ?_|refine Tb ?_|refine Td rfl ?_|refine Tl ?_|refine sE rfl ?_|refine dG (by kernel_rfl) ?_|fail);(conv=>whnf)))
            exact And.intro (AV.Le.refl _) rfl
          · have e := Option.some.inj h; subst e
            ((conv=>whnf);repeat((first|refine Ta ?_|refine Tz mix ?_|refine Tc ?_|refine Tb ?_|refine Td rfl ?_|refine Tl ?_|refine sE rfl ?_|refine dG (by kernel_rfl) ?_|fail);(conv=>whnf)))
            exact And.intro (AV.Le.refl _) rfl
    · ((conv=>whnf);repeat((first|refine Ta ?_|refine Tz mix ?_|refine Tc ?_|refine Tb ?_|refine Td rfl ?_|refine Tl ?_|refine sE rfl ?_|refine dG (by kernel_rfl) ?_|fail);(conv=>whnf)))
      refine br_b rfl h (fun c19 h => ?_) (fun c19 h => ?_)
      · ((conv=>whnf);repeat((first|refine Ta ?_|refine Tz mix ?_|refine Tc ?_|refine Tb ?_|refine Td rfl ?_|refine Tl ?_|refine sE rfl ?_|refine dG (by kernel_rfl) ?_|fail);(conv=>whnf)))
        refine br_b rfl h (fun c20 h => ?_) (fun c20 h => ?_)
        · have e := Option.some.inj h; subst e
          ((conv=>whnf);repeat((first|refine Ta ?_|refine Tz mix ?_|refine Tc ?_|refine Tb ?_|refine Td rfl ?_|refine Tl ?_|refine sE rfl ?_|refine dG (by kernel_rfl) ?_|fail);(conv=>whnf)))
          exact And.intro (AV.Le.refl _) rfl
        · ((conv=>whnf);repeat((first|refine Ta ?_|refine Tz mix ?_|refine Tc ?_|refine Tb ?_|refine Td rfl ?_|refine Tl ?_|refine sE rfl ?_|refine dG (by kernel_rfl) ?_|fail);(conv=>whnf)))
          refine br_b rfl h (fun c21 h => ?_) (fun c21 h => ?_)
          · have e := Option.some.inj h; subst e
            ((conv=>whnf);repeat((first|refine Ta ?_|refine Tz mix ?_|refine Tc ?_|refine Tb ?_|refine Td rfl ?_|refine Tl ?_|refine sE rfl ?_|refine dG (by kernel_rfl) ?_|fail);(conv=>whnf)))
            exact And.intro (AV.Le.refl _) rfl
          · have e := Option.some.inj h; subst e
            ((conv=>whnf);repeat((first|refine Ta ?_|refine Tz mix ?_|refine Tc ?_|refine Tb ?_|refine Td rfl ?_|refine Tl ?_|refine sE rfl ?_|refine dG (by kernel_rfl) ?_|fail);(conv=>whnf)))
            exact And.intro (AV.Le.refl _) rfl
      · ((conv=>whnf);repeat((first|refine Ta ?_|refine Tz mix ?_|refine Tc ?_|refine Tb ?_|refine Td rfl ?_|refine Tl ?_|refine sE rfl ?_|refine dG (by kernel_rfl) ?_|fail);(conv=>whnf)))
        refine br_b rfl h (fun c22 h => ?_) (fun c22 h => ?_)
        · have e := Option.some.inj h; subst e
          ((conv=>whnf);repeat((first|refine Ta ?_|refine Tz mix ?_|refine Tc ?_|refine Tb ?_|refine Td rfl ?_|refine Tl ?_|refine sE rfl ?_|refine dG (by kernel_rfl) ?_|fail);(conv=>whnf)))
          exact And.intro (AV.Le.refl _) rfl
        · have e := Option.some.inj h; subst e
          ((conv=>whnf);repeat((first|refine Ta ?_|refine Tz mix ?_|refine Tc ?_|refine Tb ?_|refine Td rfl ?_|refine Tl ?_|refine sE rfl ?_|refine dG (by kernel_rfl) ?_|fail);(conv=>whnf)))
          exact And.intro (AV.Le.refl _) rfl
theorem c_eponymref04_Row (p_t : T_api_Norm) (p_r : Int) (r : Int) (h : m_eponymref04_Row p_t p_r = some r) : Contract pl 89 [(e_api_Norm p_t), (AV.int .i32 p_r)] [] (AV.int .i64 r) [] := by
  refine contract_of (.t false .z (.t true .z .z)) Tryd.func89 rfl (by kernel_rfl) ?_
  ((conv=>whnf);repeat((first|refine Ta ?_|refine Tz mix ?_|refine Tc ?_|refine Tb ?_|refine Td rfl ?_|refine Tl ?_|refine sE rfl ?_|refine dG (by kernel_rfl) ?_|fail);(conv=>whnf)))
  refine bnd h (fun x10 h10 h => ?_)
  refine cut_at (fun s1 : Unit => mkF 22 [] []) (fun s1 : Unit => some (-1 : Int) = some r) ?_ ?_
  · intro Kn10 hn10
    ((conv=>whnf);repeat((first|refine Ta ?_|refine Tz mix ?_|refine Tc ?_|refine Tb ?_|refine Td rfl ?_|refine Tl ?_|refine sE rfl ?_|refine dG (by kernel_rfl) ?_|fail);(conv=>whnf)))
    refine loop_iter (fun s4 : Int => mkF 22 [(1, (.int .i32 p_r)), (2, (.mp 0 0 0)), (5, (.int .i64 s4))] [some ⟨3, 40, (.vals [(e_api_Norm p_t)]), false, false⟩]) h10 (weak_gen [0] rfl rfl (storeLe.cons rfl (objLe.mk id id (rowLe_vals (valsLe.cons (cellsLe_refl rfl) valsLe.nil))) storeLe.nil) (slotsLe.cons (And.intro rfl (AV.Le.refl _)) (slotsLe.cons (And.intro rfl (AV.Le.refl _)) (slotsLe.cons (And.intro rfl (AV.Le.refl _)) slotsLe.nil)))) ?_
    intro k6 s4 st6 Kn6 hn6 h6_ hs6
    ((conv=>whnf);repeat((first|refine Ta ?_|refine Tz mix ?_|refine Tc ?_|refine Tb ?_|refine Td rfl ?_|refine Tl ?_|refine sE rfl ?_|refine dG (by kernel_rfl) ?_|fail);(conv=>whnf)))
    refine br_b rfl h6_ (fun c11 h6_ => ?_) (fun c11 h6_ => ?_)
    · ((conv=>whnf);repeat((first|refine Ta ?_|refine Tz mix ?_|refine Tc ?_|refine Tb ?_|refine Td rfl ?_|refine Tl ?_|refine sE rfl ?_|refine dG (by kernel_rfl) ?_|fail);(conv=>whnf)))
      refine grd2 rfl rfl h6_ (fun h6_ => ?_)
      ((conv=>whnf);repeat((first|refine Ta ?_|refine Tz mix ?_|refine Tc ?_|refine Tb ?_|refine Td rfl ?_|refine Tl ?_|refine sE rfl ?_|refine dG (by kernel_rfl) ?_|fail);(conv=>whnf)))
      refine br_b rfl h6_ (fun c12 h6_ => ?_) (fun c12 h6_ => ?_)
      · have e := Option.some.inj h6_; subst e
        have e := done_out hs6; subst e
        have e := Option.some.inj h; subst e
        ((conv=>whnf);repeat((first|refine Ta ?_|refine Tz mix ?_|refine Tc ?_|refine Tb ?_|refine Td rfl ?_|refine Tl ?_|refine sE rfl ?_|refine dG (by kernel_rfl) ?_|fail);(conv=>whnf)))
        exact And.intro (AV.Le.refl _) rfl
      · have e := Option.some.inj h6_; subst e
        ((conv=>whnf);repeat((first|refine Ta ?_|refine Tz mix ?_|refine Tc ?_|refine Tb ?_|refine Td rfl ?_|refine Tl ?_|refine sE rfl ?_|refine dG (by kernel_rfl) ?_|fail);(conv=>whnf)))
        exact hn6 _ (IntKind.wrap .i64 (s4 + (1 : Int))) hs6 (weak_gen [0] rfl rfl (storeLe.cons rfl (objLe.mk id id (rowLe_vals (valsLe.cons (cellsLe_refl rfl) valsLe.nil))) storeLe.nil) (slotsLe.cons (And.intro rfl (AV.Le.refl _)) (slotsLe.cons (And.intro rfl (AV.Le.refl _)) (slotsLe.cons (And.intro rfl (AV.Le.refl _)) slotsLe.nil))))
    · have e := Option.some.inj h6_; subst e
      have e := done_out hs6; subst e
      ((conv=>whnf);repeat((first|refine Ta ?_|refine Tz mix ?_|refine Tc ?_|refine Tb ?_|refine Td rfl ?_|refine Tl ?_|refine sE rfl ?_|refine dG (by kernel_rfl) ?_|fail);(conv=>whnf)))
      exact hn10 _ () h (weak_gen [] rfl rfl storeLe.nil slotsLe.nil)
  · clear h h10
    intro s1 hc13
    have e := Option.some.inj hc13; subst e
    ((conv=>whnf);repeat((first|refine Ta ?_|refine Tz mix ?_|refine Tc ?_|refine Tb ?_|refine Td rfl ?_|refine Tl ?_|refine sE rfl ?_|refine dG (by kernel_rfl) ?_|fail);(conv=>whnf)))
    exact And.intro (AV.Le.refl _) rfl
theorem c_eponymref04_ahead (p_t : T_api_Norm) (p_i : Int) (r : Int) (h : m_eponymref04_ahead p_t p_i = some r) : Contract pl 159 [(e_api_Norm p_t), (AV.int .i64 p_i)] [] (AV.int .i64 r) [] := by
  refine contract_of (.t false .z (.t true .z .z)) Tryd.func159 rfl (by kernel_rfl) ?_
  ((conv=>whnf);repeat((first|refine Ta ?_|refine Tz mix ?_|refine Tc ?_|refine Tb ?_|refine Td rfl ?_|refine Tl ?_|refine sE rfl ?_|refine dG (by kernel_rfl) ?_|fail);(conv=>whnf)))
  refine bnd h (fun x10 h10 h => ?_)
  refine cut_at (fun s1 : Unit => mkF 27 [] []) (fun s1 : Unit => some (-1 : Int) = some r) ?_ ?_
  · intro Kn10 hn10
    ((conv=>whnf);repeat((first|refine Ta ?_|refine Tz mix ?_|refine Tc ?_|refine Tb ?_|refine Td rfl ?_|refine Tl ?_|refine sE rfl ?_|refine dG (by kernel_rfl) ?_|fail);(conv=>whnf)))
    refine loop_iter (fun s4 : Int => mkF 27 [(1, (.int .i64 p_i)), (2, (.mp 0 0 0)), (5, (.int .i64 s4))] [some ⟨3, 40, (.vals [(e_api_Norm p_t)]), false, false⟩]) h10 (weak_gen [0] rfl rfl (storeLe.cons rfl (objLe.mk id id (rowLe_vals (valsLe.cons (cellsLe_refl rfl) valsLe.nil))) storeLe.nil) (slotsLe.cons (And.intro rfl (AV.Le.refl _)) (slotsLe.cons (And.intro rfl (AV.Le.refl _)) (slotsLe.cons (And.intro rfl (AV.Le.refl _)) slotsLe.nil)))) ?_
    intro k6 s4 st6 Kn6 hn6 h6_ hs6
    ((conv=>whnf);repeat((first|refine Ta ?_|refine Tz mix ?_|refine Tc ?_|refine Tb ?_|refine Td rfl ?_|refine Tl ?_|refine sE rfl ?_|refine dG (by kernel_rfl) ?_|fail);(conv=>whnf)))
    refine br_b rfl h6_ (fun c11 h6_ => ?_) (fun c11 h6_ => ?_)
    · ((conv=>whnf);repeat((first|refine Ta ?_|refine Tz mix ?_|refine Tc ?_|refine Tb ?_|refine Td rfl ?_|refine Tl ?_|refine sE rfl ?_|refine dG (by kernel_rfl) ?_|fail);(conv=>whnf)))
      refine grd2 rfl rfl h6_ (fun h6_ => ?_)
      ((conv=>whnf);repeat((first|refine Ta ?_|refine Tz mix ?_|refine Tc ?_|refine Tb ?_|refine Td rfl ?_|refine Tl ?_|refine sE rfl ?_|refine dG (by kernel_rfl) ?_|fail);(conv=>whnf)))
      refine grd2 rfl rfl h6_ (fun h6_ => ?_)
      ((conv=>whnf);repeat((first|refine Ta ?_|refine Tz mix ?_|refine Tc ?_|refine Tb ?_|refine Td rfl ?_|refine Tl ?_|refine sE rfl ?_|refine dG (by kernel_rfl) ?_|fail);(conv=>whnf)))
      refine grd2 rfl rfl h6_ (fun h6_ => ?_)
      ((conv=>whnf);repeat((first|refine Ta ?_|refine Tz mix ?_|refine Tc ?_|refine Tb ?_|refine Td rfl ?_|refine Tl ?_|refine sE rfl ?_|refine dG (by kernel_rfl) ?_|fail);(conv=>whnf)))
      refine br_b rfl h6_ (fun c12 h6_ => ?_) (fun c12 h6_ => ?_)
      · have e := Option.some.inj h6_; subst e
        have e := done_out hs6; subst e
        have e := Option.some.inj h; subst e
        ((conv=>whnf);repeat((first|refine Ta ?_|refine Tz mix ?_|refine Tc ?_|refine Tb ?_|refine Td rfl ?_|refine Tl ?_|refine sE rfl ?_|refine dG (by kernel_rfl) ?_|fail);(conv=>whnf)))
        exact And.intro (AV.Le.refl _) rfl
      · have e := Option.some.inj h6_; subst e
        ((conv=>whnf);repeat((first|refine Ta ?_|refine Tz mix ?_|refine Tc ?_|refine Tb ?_|refine Td rfl ?_|refine Tl ?_|refine sE rfl ?_|refine dG (by kernel_rfl) ?_|fail);(conv=>whnf)))
        exact hn6 _ (IntKind.wrap .i64 (s4 + (1 : Int))) hs6 (weak_gen [0] rfl rfl (storeLe.cons rfl (objLe.mk id id (rowLe_vals (valsLe.cons (cellsLe_refl rfl) valsLe.nil))) storeLe.nil) (slotsLe.cons (And.intro rfl (AV.Le.refl _)) (slotsLe.cons (And.intro rfl (AV.Le.refl _)) (slotsLe.cons (And.intro rfl (AV.Le.refl _)) slotsLe.nil))))
    · have e := Option.some.inj h6_; subst e
      have e := done_out hs6; subst e
      ((conv=>whnf);repeat((first|refine Ta ?_|refine Tz mix ?_|refine Tc ?_|refine Tb ?_|refine Td rfl ?_|refine Tl ?_|refine sE rfl ?_|refine dG (by kernel_rfl) ?_|fail);(conv=>whnf)))
      exact hn10 _ () h (weak_gen [] rfl rfl storeLe.nil slotsLe.nil)
  · clear h h10
    intro s1 hc13
    have e := Option.some.inj hc13; subst e
    ((conv=>whnf);repeat((first|refine Ta ?_|refine Tz mix ?_|refine Tc ?_|refine Tb ?_|refine Td rfl ?_|refine Tl ?_|refine sE rfl ?_|refine dG (by kernel_rfl) ?_|fail);(conv=>whnf)))
    exact And.intro (AV.Le.refl _) rfl
theorem c_eponymref04_row (p_t : T_api_Norm) (p_i : Int) (r : Int) (h : m_eponymref04_row p_t p_i = some r) : Contract pl 128 [(e_api_Norm p_t), (AV.int .i64 p_i)] [] (AV.int .i64 r) [] := by
  refine contract_of (.t false .z (.t false .z (.t false (.t true .z .z) (.t false (.t true .z .z) (.t false (.t true .z .z) (.t true (.t false .z (.t false (.t false (.t false .z (.t false (.t false (.t true .z .z) .z) .z)) .z) .z)) (.t false (.t true .z .z) (.t false .z (.t true .z .z))))))))) Tryd.func128 rfl (by kernel_rfl) ?_
  ((conv=>whnf);repeat((first|refine Ta ?_|refine Tz mix ?_|refine Tc ?_|refine Tb ?_|refine Td rfl ?_|refine Tl ?_|refine sE rfl ?_|refine dG (by kernel_rfl) ?_|fail);(conv=>whnf)))
  refine grd2 rfl rfl h (fun h => ?_)
  ((conv=>whnf);repeat((first|refine Ta ?_|refine Tz mix ?_|refine Tc ?_|refine Tb ?_|refine Td rfl ?_|refine Tl ?_|refine sE rfl ?_|refine dG (by kernel_rfl) ?_|fail);(conv=>whnf)))
  refine bnd h (fun x35 h35 h => ?_)
  refine cut_at (fun s1 : Bool => mkF 101 [(1, (.int .i64 p_i)), (2, (.mp 0 0 0)), (5, (.mp 1 0 0)), (22, (.bool s1))] [some ⟨3, 40, (.vals [(e_api_Norm p_t)]), false, false⟩, some ⟨2, 103, (.vals [(e_api_Row (p_t.f_Rows.getD (p_i.toNat) d_api_Row))]), false, false⟩]) (fun s1 : Bool => m_eponymref04_row_K2 p_t p_i s1 = some r) ?_ ?_
  · intro Kn35 hn35
    ((conv=>whnf);repeat((first|refine Ta ?_|refine Tz mix ?_|refine Tc ?_|refine Tb ?_|refine Td rfl ?_|refine Tl ?_|refine sE rfl ?_|refine dG (by kernel_rfl) ?_|fail);(conv=>whnf)))
    refine bnd h35 (fun y33 hy33 h35 => ?_)
    refine Or.inl ⟨_, c_eponymref01_Right _ _ hy33, rfl, ?_⟩
    ((conv=>whnf);repeat((first|refine Ta ?_|refine Tz mix ?_|refine Tc ?_|refine Tb ?_|refine Td rfl ?_|refine Tl ?_|refine sE rfl ?_|refine dG (by kernel_rfl) ?_|fail);(conv=>whnf)))
    refine br_b rfl h35 (fun c36 h35 => ?_) (fun c36 h35 => ?_)
    · have e := Option.some.inj h35; subst e
      ((conv=>whnf);repeat((first|refine Ta ?_|refine Tz mix ?_|refine Tc ?_|refine Tb ?_|refine Td rfl ?_|refine Tl ?_|refine sE rfl ?_|refine dG (by kernel_rfl) ?_|fail);(conv=>whnf)))
      exact hn35 _ true h (weak_gen [0, 1] rfl rfl (storeLe.cons rfl (objLe.mk id id (rowLe_vals (valsLe.cons (cellsLe_refl rfl) valsLe.nil))) (storeLe.cons rfl (objLe.mk id id (rowLe_vals (valsLe.cons (cellsLe_refl rfl) valsLe.nil))) storeLe.nil)) (slotsLe.cons (And.intro rfl (AV.Le.refl _)) (slotsLe.cons (And.intro rfl (AV.Le.refl _)) (slotsLe.cons (And.intro rfl (AV.Le.refl _)) (slotsLe.cons (And.intro rfl (AV.Le.refl _)) slotsLe.nil)))))
    · ((conv=>whnf);repeat((first|refine Ta ?_|refine Tz mix ?_|refine Tc ?_|refine Tb ?_|refine Td rfl ?_|refine Tl ?_|refine sE rfl ?_|refine dG (by kernel_rfl) ?_|fail);(conv=>whnf)))
      refine bnd h35 (fun y34 hy34 h35 => ?_)
      refine Or.inl ⟨_, c_eponymref04_hangul _ _ hy34, rfl, ?_⟩
      have e := Option.some.inj h35; subst e
      ((conv=>whnf);repeat((first|refine Ta ?_|refine Tz mix ?_|refine Tc ?_|refine Tb ?_|refine Td rfl ?_|refine Tl ?_|refine sE rfl ?_|refine dG (by kernel_rfl) ?_|fail);(conv=>whnf)))
      exact hn35 _ y34 h (weak_gen [0, 1] rfl rfl (storeLe.cons rfl (objLe.mk id id (rowLe_vals (valsLe.cons (cellsLe_refl rfl) valsLe.nil))) (storeLe.cons rfl (objLe.mk id id (rowLe_vals (valsLe.cons (cellsLe_refl rfl) valsLe.nil))) storeLe.nil)) (slotsLe.cons (And.intro rfl (AV.Le.refl _)) (slotsLe.cons (And.intro rfl (AV.Le.refl _)) (slotsLe.cons (And.intro rfl (AV.Le.refl _)) (slotsLe.cons (And.intro rfl (AV.Le.refl _)) slotsLe.nil)))))
  · clear h h35
    intro s1 hc37
    ((conv=>whnf);repeat((first|refine Ta ?_|refine Tz mix ?_|refine Tc ?_|refine Tb ?_|refine Td rfl ?_|refine Tl ?_|refine sE rfl ?_|refine dG (by kernel_rfl) ?_|fail);(conv=>whnf)))
    refine br_b rfl hc37 (fun c38 hc37 => ?_) (fun c38 hc37 => ?_)
    · have e := Option.some.inj hc37; subst e
      ((conv=>whnf);repeat((first|refine Ta ?_|refine Tz mix ?_|refine Tc ?_|refine Tb ?_|refine Td rfl ?_|refine Tl ?_|refine sE rfl ?_|refine dG (by kernel_rfl) ?_|fail);(conv=>whnf)))
      exact And.intro (AV.Le.refl _) rfl
    · ((conv=>whnf);repeat((first|refine Ta ?_|refine Tz mix ?_|refine Tc ?_|refine Tb ?_|refine Td rfl ?_|refine Tl ?_|refine sE rfl ?_|refine dG (by kernel_rfl) ?_|fail);(conv=>whnf)))
      refine bnd hc37 (fun x39 h39 hc37 => ?_)
      refine cut_at (fun s3 : Bool => mkF 101 [(1, (.int .i64 p_i)), (2, (.mp 0 0 0)), (5, (.mp 1 0 0)), (36, (.bool s3))] [some ⟨3, 40, (.vals [(e_api_Norm p_t)]), false, false⟩, some ⟨2, 103, (.vals [(e_api_Row (p_t.f_Rows.getD (p_i.toNat) d_api_Row))]), false, false⟩]) (fun s3 : Bool => m_eponymref04_row_K4 p_t p_i s3 = some r) ?_ ?_
      · intro Kn39 hn39
        ((conv=>whnf);repeat((first|refine Ta ?_|refine Tz mix ?_|refine Tc ?_|refine Tb ?_|refine Td rfl ?_|refine Tl ?_|refine sE rfl ?_|refine dG (by kernel_rfl) ?_|fail);(conv=>whnf)))
        refine br_b rfl h39 (fun c40 h39 => ?_) (fun c40 h39 => ?_)
        · ((conv=>whnf);repeat((first|refine Ta ?_|refine Tz mix ?_|refine Tc ?_|refine Tb ?_|refine Td rfl ?_|refine Tl ?_|refine sE rfl ?_|refine dG (by kernel_rfl) ?_|fail);(conv=>whnf)))
          refine grd2 rfl rfl h39 (fun h39 => ?_)
          have e := Option.some.inj h39; subst e
          ((conv=>whnf);repeat((first|refine Ta ?_|refine Tz mix ?_|refine Tc ?_|refine Tb ?_|refine Td rfl ?_|refine Tl ?_|refine sE rfl ?_|refine dG (by kernel_rfl) ?_|fail);(conv=>whnf)))
          exact hn39 _ (decide ((p_t.f_Rows.getD (p_i.toNat) d_api_Row).f_From ≤ (p_t.f_Rows.getD ((IntKind.wrap .i64 (p_i - (1 : Int))).toNat) d_api_Row).f_From)) hc37 (weak_gen [0, 1] rfl rfl (storeLe.cons rfl (objLe.mk id id (rowLe_vals (valsLe.cons (cellsLe_refl rfl) valsLe.nil))) (storeLe.cons rfl (objLe.mk id id (rowLe_vals (valsLe.cons (cellsLe_refl rfl) valsLe.nil))) storeLe.nil)) (slotsLe.cons (And.intro rfl (AV.Le.refl _)) (slotsLe.cons (And.intro rfl (AV.Le.refl _)) (slotsLe.cons (And.intro rfl (AV.Le.refl _)) (slotsLe.cons (And.intro rfl (AV.Le.refl _)) slotsLe.nil)))))
        · have e := Option.some.inj h39; subst e
          ((conv=>whnf);repeat((first|refine Ta ?_|refine Tz mix ?_|refine Tc ?_|refine Tb ?_|refine Td rfl ?_|refine Tl ?_|refine sE rfl ?_|refine dG (by kernel_rfl) ?_|fail);(conv=>whnf)))
          exact hn39 _ false hc37 (weak_gen [0, 1] rfl rfl (storeLe.cons rfl (objLe.mk id id (rowLe_vals (valsLe.cons (cellsLe_refl rfl) valsLe.nil))) (storeLe.cons rfl (objLe.mk id id (rowLe_vals (valsLe.cons (cellsLe_refl rfl) valsLe.nil))) storeLe.nil)) (slotsLe.cons (And.intro rfl (AV.Le.refl _)) (slotsLe.cons (And.intro rfl (AV.Le.refl _)) (slotsLe.cons (And.intro rfl (AV.Le.refl _)) (slotsLe.cons (And.intro rfl (AV.Le.refl _)) slotsLe.nil)))))
      · clear hc37 h39
        intro s3 hc41
        ((conv=>whnf);repeat((first|refine Ta ?_|refine Tz mix ?_|refine Tc ?_|refine Tb ?_|refine Td rfl ?_|refine Tl ?_|refine sE rfl ?_|refine dG (by kernel_rfl) ?_|fail);(conv=>whnf)))
        refine br_b rfl hc41 (fun c42 hc41 => ?_) (fun c42 hc41 => ?_)
        · have e := Option.some.inj hc41; subst e
          ((conv=>whnf);repeat((first|refine Ta ?_|refine Tz mix ?_|refine Tc ?_|refine Tb ?_|refine Td rfl ?_|refine Tl ?_|refine sE rfl ?_|refine dG (by kernel_rfl) ?_|fail);(conv=>whnf)))
          exact And.intro (AV.Le.refl _) rfl
        · ((conv=>whnf);repeat((first|refine Ta ?_|refine Tz mix ?_|refine Tc ?_|refine Tb ?_|refine Td rfl ?_|refine Tl ?_|refine sE rfl ?_|refine dG (by kernel_rfl) ?_|fail);(conv=>whnf)))
          refine bnd hc41 (fun x43 h43 hc41 => ?_)
          refine cut_at (fun s5 : Bool => mkF 101 [(1, (.int .i64 p_i)), (2, (.mp 0 0 0)), (5, (.mp 1 0 0)), (55, (.bool s5))] [some ⟨3, 40, (.vals [(e_api_Norm p_t)]), false, false⟩, some ⟨2, 103, (.vals [(e_api_Row (p_t.f_Rows.getD (p_i.toNat) d_api_Row))]), false, false⟩]) (fun s5 : Bool => m_eponymref04_row_K6 p_t p_i s5 = some r) ?_ ?_
          · intro Kn43 hn43
            ((conv=>whnf);repeat((first|refine Ta ?_|refine Tz mix ?_|refine Tc ?_|refine Tb ?_|refine Td rfl ?_|refine Tl ?_|refine sE rfl ?_|refine dG (by kernel_rfl) ?_|fail);(conv=>whnf)))
            refine br_b rfl h43 (fun c44 h43 => ?_) (fun c44 h43 => ?_)
            · ((conv=>whnf);repeat((first|refine Ta ?_|refine Tz mix ?_|refine Tc ?_|refine Tb ?_|refine Td rfl ?_|refine Tl ?_|refine sE rfl ?_|refine dG (by kernel_rfl) ?_|fail);(conv=>whnf)))
              refine br_b rfl h43 (fun c45 h43 => ?_) (fun c45 h43 => ?_)
              · have e := Option.some.inj h43; subst e
                ((conv=>whnf);repeat((first|refine Ta ?_|refine Tz mix ?_|refine Tc ?_|refine Tb ?_|refine Td rfl ?_|refine Tl ?_|refine sE rfl ?_|refine dG (by kernel_rfl) ?_|fail);(conv=>whnf)))
                exact hn43 _ true hc41 (weak_gen [0, 1] rfl rfl (storeLe.cons rfl (objLe.mk id id (rowLe_vals (valsLe.cons (cellsLe_refl rfl) valsLe.nil))) (storeLe.cons rfl (objLe.mk id id (rowLe_vals (valsLe.cons (cellsLe_refl rfl) valsLe.nil))) storeLe.nil)) (slotsLe.cons (And.intro rfl (AV.Le.refl _)) (slotsLe.cons (And.intro rfl (AV.Le.refl _)) (slotsLe.cons (And.intro rfl (AV.Le.refl _)) (slotsLe.cons (And.intro rfl (AV.Le.refl _)) slotsLe.nil)))))
              · ((conv=>whnf);repeat((first|refine Ta ?_|refine Tz mix ?_|refine Tc ?_|refine Tb ?_|refine Td rfl ?_|refine Tl ?_|refine sE rfl ?_|refine dG (by kernel_rfl) ?_|fail);(conv=>whnf)))
                refine grd2 rfl rfl h43 (fun h43 => ?_)
                have e := Option.some.inj h43; subst e
                ((conv=>whnf);repeat((first|refine Ta ?_|refine Tz mix ?_|refine Tc ?_|refine Tb ?_|refine Td rfl ?_|refine Tl ?_|refine sE rfl ?_|refine dG (by kernel_rfl) ?_|fail);(conv=>whnf)))
                exact hn43 _ (decide (((p_t.f_Rows.getD (p_i.toNat) d_api_Row).f_To.getD 0 0) ≥ (p_t.f_Rows.getD (p_i.toNat) d_api_Row).f_From)) hc41 (weak_gen [0, 1] rfl rfl (storeLe.cons rfl (objLe.mk id id (rowLe_vals (valsLe.cons (cellsLe_refl rfl) valsLe.nil))) (storeLe.cons rfl (objLe.mk id id (rowLe_vals (valsLe.cons (cellsLe_refl rfl) valsLe.nil))) storeLe.nil)) (slotsLe.cons (And.intro rfl (AV.Le.refl _)) (slotsLe.cons (And.intro rfl (AV.Le.refl _)) (slotsLe.cons (And.intro rfl (AV.Le.refl _)) (slotsLe.cons (And.intro rfl (AV.Le.refl _)) slotsLe.nil)))))
            · ((conv=>whnf);repeat((first|refine Ta ?_|refine Tz mix ?_|refine Tc ?_|refine Tb ?_|refine Td rfl ?_|refine Tl ?_|refine sE rfl ?_|refine dG (by kernel_rfl) ?_|fail);(conv=>whnf)))
              refine grd2 rfl rfl h43 (fun h43 => ?_)
              have e := Option.some.inj h43; subst e
              ((conv=>whnf);repeat((first|refine Ta ?_|refine Tz mix ?_|refine Tc ?_|refine Tb ?_|refine Td rfl ?_|refine Tl ?_|refine sE rfl ?_|refine dG (by kernel_rfl) ?_|fail);(conv=>whnf)))
              exact hn43 _ (decide (((p_t.f_Rows.getD (p_i.toNat) d_api_Row).f_To.getD 0 0) ≥ (p_t.f_Rows.getD (p_i.toNat) d_api_Row).f_From)) hc41 (weak_gen [0, 1] rfl rfl (storeLe.cons rfl (objLe.mk id id (rowLe_vals (valsLe.cons (cellsLe_refl rfl) valsLe.nil))) (storeLe.cons rfl (objLe.mk id id (rowLe_vals (valsLe.cons (cellsLe_refl rfl) valsLe.nil))) storeLe.nil)) (slotsLe.cons (And.intro rfl (AV.Le.refl _)) (slotsLe.cons (And.intro rfl (AV.Le.refl _)) (slotsLe.cons (And.intro rfl (AV.Le.refl _)) (slotsLe.cons (And.intro rfl (AV.Le.refl _)) slotsLe.nil)))))
          · clear hc41 h43
            intro s5 hc46
            ((conv=>whnf);repeat((first|refine Ta ?_|refine Tz mix ?_|refine Tc ?_|refine Tb ?_|refine Td rfl ?_|refine Tl ?_|refine sE rfl ?_|refine dG (by kernel_rfl) ?_|fail);(conv=>whnf)))
            refine br_b rfl hc46 (fun c47 hc46 => ?_) (fun c47 hc46 => ?_)
            · have e := Option.some.inj hc46; subst e
              ((conv=>whnf);repeat((first|refine Ta ?_|refine Tz mix ?_|refine Tc ?_|refine Tb ?_|refine Td rfl ?_|refine Tl ?_|refine sE rfl ?_|refine dG (by kernel_rfl) ?_|fail);(conv=>whnf)))
              exact And.intro (AV.Le.refl _) rfl
            · ((conv=>whnf);repeat((first|refine Ta ?_|refine Tz mix ?_|refine Tc ?_|refine Tb ?_|refine Td rfl ?_|refine Tl ?_|refine sE rfl ?_|refine dG (by kernel_rfl) ?_|fail);(conv=>whnf)))
              refine bnd hc46 (fun x48 h48 hc46 => ?_)
              refine cut_at (fun s7 : Unit => mkF 101 [(1, (.int .i64 p_i)), (2, (.mp 0 0 0)), (5, (.mp 1 0 0))] [some ⟨3, 40, (.vals [(e_api_Norm p_t)]), false, false⟩, some ⟨2, 103, (.vals [(e_api_Row (p_t.f_Rows.getD (p_i.toNat) d_api_Row))]), false, false⟩]) (fun s7 : Unit => m_eponymref04_row_K8 p_t p_i s7 = some r) ?_ ?_
              · intro Kn48 hn48
                ((conv=>whnf);repeat((first|refine Ta ?_|refine Tz mix ?_|refine Tc ?_|refine Tb ?_|refine Td rfl ?_|refine Tl ?_|refine sE rfl ?_|refine dG (by kernel_rfl) ?_|fail);(conv=>whnf)))
                refine loop_iter (fun s23 : Int => mkF 101 [(1, (.int .i64 p_i)), (2, (.mp 0 0 0)), (5, (.mp 1 0 0)), (6, (.int .i64 s23))] [some ⟨3, 40, (.vals [(e_api_Norm p_t)]), false, false⟩, some ⟨2, 103, (.vals [(e_api_Row (p_t.f_Rows.getD (p_i.toNat) d_api_Row))]), false, false⟩]) h48 (weak_gen [0, 1] rfl rfl (storeLe.cons rfl (objLe.mk id id (rowLe_vals (valsLe.cons (cellsLe_refl rfl) valsLe.nil))) (storeLe.cons rfl (objLe.mk id id (rowLe_vals (valsLe.cons (cellsLe_refl rfl) valsLe.nil))) storeLe.nil)) (slotsLe.cons (And.intro rfl (AV.Le.refl _)) (slotsLe.cons (And.intro rfl (AV.Le.refl _)) (slotsLe.cons (And.intro rfl (AV.Le.refl _)) (slotsLe.cons (And.intro rfl (AV.Le.refl _)) slotsLe.nil))))) ?_
                intro k25 s23 st25 Kn25 hn25 h25_ hs25
                ((conv=>whnf);repeat((first|refine Ta ?_|refine Tz mix ?_|refine Tc ?_|refine Tb ?_|refine Td rfl ?_|refine Tl ?_|refine sE rfl ?_|refine dG (by kernel_rfl) ?_|fail);(conv=>whnf)))
                refine br_b rfl h25_ (fun c49 h25_ => ?_) (fun c49 h25_ => ?_)
                · ((conv=>whnf);repeat((first|refine Ta ?_|refine Tz mix ?_|refine Tc ?_|refine Tb ?_|refine Td rfl ?_|refine Tl ?_|refine sE rfl ?_|refine dG (by kernel_rfl) ?_|fail);(conv=>whnf)))
                  refine bnd h25_ (fun x50 h50 h25_ => ?_)
                  refine cut_at (fun s26 : Bool => mkF 101 [(1, (.int .i64 p_i)), (2, (.mp 0 0 0)), (5, (.mp 1 0 0)), (6, (.int .i64 s23)), (77, (.bool s26))] [some ⟨3, 40, (.vals [(e_api_Norm p_t)]), false, false⟩, some ⟨2, 103, (.vals [(e_api_Row (p_t.f_Rows.getD (p_i.toNat) d_api_Row))]), false, false⟩]) (fun s26 : Bool => m_eponymref04_row_K27 s23 s26 = some st25) ?_ ?_
                  · intro Kn50 hn50
                    ((conv=>whnf);repeat((first|refine Ta ?_|refine Tz mix ?_|refine Tc ?_|refine Tb ?_|refine Td rfl ?_|refine Tl ?_|refine sE rfl ?_|refine dG (by kernel_rfl) ?_|fail);(conv=>whnf)))
                    refine grd2 rfl rfl h50 (fun h50 => ?_)
                    ((conv=>whnf);repeat((first|refine Ta ?_|refine Tz mix ?_|refine Tc ?_|refine Tb ?_|refine Td rfl ?_|refine Tl ?_|refine sE rfl ?_|refine dG (by kernel_rfl) ?_|fail);(conv=>whnf)))
                    refine bnd h50 (fun y28 hy28 h50 => ?_)
                    refine Or.inl ⟨_, c_eponymref01_Right _ _ hy28, rfl, ?_⟩
                    ((conv=>whnf);repeat((first|refine Ta ?_|refine Tz mix ?_|refine Tc ?_|refine Tb ?_|refine Td rfl ?_|refine Tl ?_|refine sE rfl ?_|refine dG (by kernel_rfl) ?_|fail);(conv=>whnf)))
                    refine br_b rfl h50 (fun c51 h50 => ?_) (fun c51 h50 => ?_)
                    · have e := Option.some.inj h50; subst e
                      ((conv=>whnf);repeat((first|refine Ta ?_|refine Tz mix ?_|refine Tc ?_|refine Tb ?_|refine Td rfl ?_|refine Tl ?_|refine sE rfl ?_|refine dG (by kernel_rfl) ?_|fail);(conv=>whnf)))
                      exact hn50 _ true h25_ (weak_gen [0, 1] rfl rfl (storeLe.cons rfl (objLe.mk id id (rowLe_vals (valsLe.cons (cellsLe_refl rfl) valsLe.nil))) (storeLe.cons rfl (objLe.mk id id (rowLe_vals (valsLe.cons (cellsLe_refl rfl) valsLe.nil))) storeLe.nil)) (slotsLe.cons (And.intro rfl (AV.Le.refl _)) (slotsLe.cons (And.intro rfl (AV.Le.refl _)) (slotsLe.cons (And.intro rfl (AV.Le.refl _)) (slotsLe.cons (And.intro rfl (AV.Le.refl _)) (slotsLe.cons (And.intro rfl (AV.Le.refl _)) slotsLe.nil))))))
                    · ((conv=>whnf);repeat((first|refine Ta ?_|refine Tz mix ?_|refine Tc ?_|refine Tb ?_|refine Td rfl ?_|refine Tl ?_|refine sE rfl ?_|refine dG (by kernel_rfl) ?_|fail);(conv=>whnf)))
                      refine grd2 rfl rfl h50 (fun h50 => ?_)
                      ((conv=>whnf);repeat((first|refine Ta ?_|refine Tz mix ?_|refine Tc ?_|refine Tb ?_|refine Td rfl ?_|refine Tl ?_|refine sE rfl ?_|refine dG (by kernel_rfl) ?_|fail);(conv=>whnf)))
                      refine bnd h50 (fun y29 hy29 h50 => ?_)
                      refine Or.inl ⟨_, c_eponymref04_hangul _ _ hy29, rfl, ?_⟩
                      have e := Option.some.inj h50; subst e
                      ((conv=>whnf);repeat((first|refine Ta ?_|refine Tz mix ?_|refine Tc ?_|refine Tb ?_|refine Td rfl ?_|refine Tl ?_|refine sE rfl ?_|refine dG (by kernel_rfl) ?_|fail);(conv=>whnf)))
                      exact hn50 _ y29 h25_ (weak_gen [0, 1] rfl rfl (storeLe.cons rfl (objLe.mk id id (rowLe_vals (valsLe.cons (cellsLe_refl rfl) valsLe.nil))) (storeLe.cons rfl (objLe.mk id id (rowLe_vals (valsLe.cons (cellsLe_refl rfl) valsLe.nil))) storeLe.nil)) (slotsLe.cons (And.intro rfl (AV.Le.refl _)) (slotsLe.cons (And.intro rfl (AV.Le.refl _)) (slotsLe.cons (And.intro rfl (AV.Le.refl _)) (slotsLe.cons (And.intro rfl (AV.Le.refl _)) (slotsLe.cons (And.intro rfl (AV.Le.refl _)) slotsLe.nil))))))
                  · clear h25_ h50
                    intro s26 hc52
                    ((conv=>whnf);repeat((first|refine Ta ?_|refine Tz mix ?_|refine Tc ?_|refine Tb ?_|refine Td rfl ?_|refine Tl ?_|refine sE rfl ?_|refine dG (by kernel_rfl) ?_|fail);(conv=>whnf)))
                    refine br_b rfl hc52 (fun c53 hc52 => ?_) (fun c53 hc52 => ?_)
                    · have e := Option.some.inj hc52; subst e
                      have e := done_out hs25; subst e
                      have e := Option.some.inj hc46; subst e
                      ((conv=>whnf);repeat((first|refine Ta ?_|refine Tz mix ?_|refine Tc ?_|refine Tb ?_|refine Td rfl ?_|refine Tl ?_|refine sE rfl ?_|refine dG (by kernel_rfl) ?_|fail);(conv=>whnf)))
                      exact And.intro (AV.Le.refl _) rfl
                    · have e := Option.some.inj hc52; subst e
                      ((conv=>whnf);repeat((first|refine Ta ?_|refine Tz mix ?_|refine Tc ?_|refine Tb ?_|refine Td rfl ?_|refine Tl ?_|refine sE rfl ?_|refine dG (by kernel_rfl) ?_|fail);(conv=>whnf)))
                      exact hn25 _ (IntKind.wrap .i64 (s23 + (1 : Int))) hs25 (weak_gen [0, 1] rfl rfl (storeLe.cons rfl (objLe.mk id id (rowLe_vals (valsLe.cons (cellsLe_refl rfl) valsLe.nil))) (storeLe.cons rfl (objLe.mk id id (rowLe_vals (valsLe.cons (cellsLe_refl rfl) valsLe.nil))) storeLe.nil)) (slotsLe.cons (And.intro rfl (AV.Le.refl _)) (slotsLe.cons (And.intro rfl (AV.Le.refl _)) (slotsLe.cons (And.intro rfl (AV.Le.refl _)) (slotsLe.cons (And.intro rfl (AV.Le.refl _)) slotsLe.nil)))))
                · have e := Option.some.inj h25_; subst e
                  have e := done_out hs25; subst e
                  ((conv=>whnf);repeat((first|refine Ta ?_|refine Tz mix ?_|refine Tc ?_|refine Tb ?_|refine Td rfl ?_|refine Tl ?_|refine sE rfl ?_|refine dG (by kernel_rfl) ?_|fail);(conv=>whnf)))
                  exact hn48 _ () hc46 (weak_gen [0, 1] rfl rfl (storeLe.cons rfl (objLe.mk id id (rowLe_vals (valsLe.cons (cellsLe_refl rfl) valsLe.nil))) (storeLe.cons rfl (objLe.mk id id (rowLe_vals (valsLe.cons (cellsLe_refl rfl) valsLe.nil))) storeLe.nil)) (slotsLe.cons (And.intro rfl (AV.Le.refl _)) (slotsLe.cons (And.intro rfl (AV.Le.refl _)) (slotsLe.cons (And.intro rfl (AV.Le.refl _)) slotsLe.nil))))
              · clear hc46 h48
                intro s7 hc54
                ((conv=>whnf);repeat((first|refine Ta ?_|refine Tz mix ?_|refine Tc ?_|refine Tb ?_|refine Td rfl ?_|refine Tl ?_|refine sE rfl ?_|refine dG (by kernel_rfl) ?_|fail);(conv=>whnf)))
                refine bnd hc54 (fun x55 h55 hc54 => ?_)
                refine cut_at (fun s9 : Bool => mkF 101 [(1, (.int .i64 p_i)), (2, (.mp 0 0 0)), (90, (.bool s9))] [some ⟨3, 40, (.vals [(e_api_Norm p_t)]), false, false⟩]) (fun s9 : Bool => m_eponymref04_row_K10 p_t p_i s9 = some r) ?_ ?_
                · intro Kn55 hn55
                  ((conv=>whnf);repeat((first|refine Ta ?_|refine Tz mix ?_|refine Tc ?_|refine Tb ?_|refine Td rfl ?_|refine Tl ?_|refine sE rfl ?_|refine dG (by kernel_rfl) ?_|fail);(conv=>whnf)))
                  refine br_b rfl h55 (fun c56 h55 => ?_) (fun c56 h55 => ?_)
                  · ((conv=>whnf);repeat((first|refine Ta ?_|refine Tz mix ?_|refine Tc ?_|refine Tb ?_|refine Td rfl ?_|refine Tl ?_|refine sE rfl ?_|refine dG (by kernel_rfl) ?_|fail);(conv=>whnf)))
                    refine grd2 rfl rfl h55 (fun h55 => ?_)
                    ((conv=>whnf);repeat((first|refine Ta ?_|refine Tz mix ?_|refine Tc ?_|refine Tb ?_|refine Td rfl ?_|refine Tl ?_|refine sE rfl ?_|refine dG (by kernel_rfl) ?_|fail);(conv=>whnf)))
                    refine bnd h55 (fun y21 hy21 h55 => ?_)
                    refine Or.inl ⟨_, c_eponymref04_Row _ _ _ hy21, rfl, ?_⟩
                    have e := Option.some.inj h55; subst e
                    ((conv=>whnf);repeat((first|refine Ta ?_|refine Tz mix ?_|refine Tc ?_|refine Tb ?_|refine Td rfl ?_|refine Tl ?_|refine sE rfl ?_|refine dG (by kernel_rfl) ?_|fail);(conv=>whnf)))
                    exact hn55 _ (decide (y21 ≥ (0 : Int))) hc54 (weak_gen [0] rfl rfl (storeLe.cons rfl (objLe.mk id id (rowLe_vals (valsLe.cons (cellsLe_refl rfl) valsLe.nil))) storeLe.nil) (slotsLe.cons (And.intro rfl (AV.Le.refl _)) (slotsLe.cons (And.intro rfl (AV.Le.refl _)) (slotsLe.cons (And.intro rfl (AV.Le.refl _)) slotsLe.nil))))
                  · have e := Option.some.inj h55; subst e
                    ((conv=>whnf);repeat((first|refine Ta ?_|refine Tz mix ?_|refine Tc ?_|refine Tb ?_|refine Td rfl ?_|refine Tl ?_|refine sE rfl ?_|refine dG (by kernel_rfl) ?_|fail);(conv=>whnf)))
                    exact hn55 _ false hc54 (weak_gen [0] rfl rfl (storeLe.cons rfl (objLe.mk id id (rowLe_vals (valsLe.cons (cellsLe_refl rfl) valsLe.nil))) storeLe.nil) (slotsLe.cons (And.intro rfl (AV.Le.refl _)) (slotsLe.cons (And.intro rfl (AV.Le.refl _)) (slotsLe.cons (And.intro rfl (AV.Le.refl _)) slotsLe.nil))))
                · clear hc54 h55
                  intro s9 hc57
                  ((conv=>whnf);repeat((first|refine Ta ?_|refine Tz mix ?_|refine Tc ?_|refine Tb ?_|refine Td rfl ?_|refine Tl ?_|refine sE rfl ?_|refine dG (by kernel_rfl) ?_|fail);(conv=>whnf)))
                  refine br_b rfl hc57 (fun c58 hc57 => ?_) (fun c58 hc57 => ?_)
                  · have e := Option.some.inj hc57; subst e
                    ((conv=>whnf);repeat((first|refine Ta ?_|refine Tz mix ?_|refine Tc ?_|refine Tb ?_|refine Td rfl ?_|refine Tl ?_|refine sE rfl ?_|refine dG (by kernel_rfl) ?_|fail);(conv=>whnf)))
                    exact And.intro (AV.Le.refl _) rfl
                  · ((conv=>whnf);repeat((first|refine Ta ?_|refine Tz mix ?_|refine Tc ?_|refine Tb ?_|refine Td rfl ?_|refine Tl ?_|refine sE rfl ?_|refine dG (by kernel_rfl) ?_|fail);(conv=>whnf)))
                    refine bnd hc57 (fun x59 h59 hc57 => ?_)
                    refine cut_at (fun s11 : Unit => mkF 101 [] []) (fun s11 : Unit => some (0 : Int) = some r) ?_ ?_
                    · intro Kn59 hn59
                      ((conv=>whnf);repeat((first|refine Ta ?_|refine Tz mix ?_|refine Tc ?_|refine Tb ?_|refine Td rfl ?_|refine Tl ?_|refine sE rfl ?_|refine dG (by kernel_rfl) ?_|fail);(conv=>whnf)))
                      refine loop_iter (fun s14 : Int × Int => mkF 101 [(2, (.mp 0 0 0)), (7, (.int .i64 s14.1)), (8, (.int .i64 s14.2))] [some ⟨3, 40, (.vals [(e_api_Norm p_t)]), false, false⟩]) h59 (weak_gen [0] rfl rfl (storeLe.cons rfl (objLe.mk id id (rowLe_vals (valsLe.cons (cellsLe_refl rfl) valsLe.nil))) storeLe.nil) (slotsLe.cons (And.intro rfl (AV.Le.refl _)) (slotsLe.cons (And.intro rfl (AV.Le.refl _)) (slotsLe.cons (And.intro rfl (AV.Le.refl _)) slotsLe.nil)))) ?_
                      intro k16 s14 st16 Kn16 hn16 h16_ hs16
                      ((conv=>whnf);repeat((first|refine Ta ?_|refine Tz mix ?_|refine Tc ?_|refine Tb ?_|refine Td rfl ?_|refine Tl ?_|refine sE rfl ?_|refine dG (by kernel_rfl) ?_|fail);(conv=>whnf)))
                      refine br_b rfl h16_ (fun c60 h16_ => ?_) (fun c60 h16_ => ?_)
                      · ((conv=>whnf);repeat((first|refine Ta ?_|refine Tz mix ?_|refine Tc ?_|refine Tb ?_|refine Td rfl ?_|refine Tl ?_|refine sE rfl ?_|refine dG (by kernel_rfl) ?_|fail);(conv=>whnf)))
                        refine br_b rfl h16_ (fun c61 h16_ => ?_) (fun c61 h16_ => ?_)
                        · have e := Option.some.inj h16_; subst e
                          have e := done_out hs16; subst e
                          have e := Option.some.inj hc57; subst e
                          ((conv=>whnf);repeat((first|refine Ta ?_|refine Tz mix ?_|refine Tc ?_|refine Tb ?_|refine Td rfl ?_|refine Tl ?_|refine sE rfl ?_|refine dG (by kernel_rfl) ?_|fail);(conv=>whnf)))
                          exact And.intro (AV.Le.refl _) rfl
                        · ((conv=>whnf);repeat((first|refine Ta ?_|refine Tz mix ?_|refine Tc ?_|refine Tb ?_|refine Td rfl ?_|refine Tl ?_|refine sE rfl ?_|refine dG (by kernel_rfl) ?_|fail);(conv=>whnf)))
                          refine bnd h16_ (fun y17 hy17 h16_ => ?_)
                          refine Or.inl ⟨_, c_eponymref04_ahead _ _ _ hy17, rfl, ?_⟩
                          have e := Option.some.inj h16_; subst e
                          ((conv=>whnf);repeat((first|refine Ta ?_|refine Tz mix ?_|refine Tc ?_|refine Tb ?_|refine Td rfl ?_|refine Tl ?_|refine sE rfl ?_|refine dG (by kernel_rfl) ?_|fail);(conv=>whnf)))
                          exact hn16 _ ((IntKind.wrap .i64 (s14.1 + (1 : Int))), y17) hs16 (weak_gen [0] rfl rfl (storeLe.cons rfl (objLe.mk id id (rowLe_vals (valsLe.cons (cellsLe_refl rfl) valsLe.nil))) storeLe.nil) (slotsLe.cons (And.intro rfl (AV.Le.refl _)) (slotsLe.cons (And.intro rfl (AV.Le.refl _)) (slotsLe.cons (And.intro rfl (AV.Le.refl _)) slotsLe.nil))))
                      · have e := Option.some.inj h16_; subst e
                        have e := done_out hs16; subst e
                        ((conv=>whnf);repeat((first|refine Ta ?_|refine Tz mix ?_|refine Tc ?_|refine Tb ?_|refine Td rfl ?_|refine Tl ?_|refine sE rfl ?_|refine dG (by kernel_rfl) ?_|fail);(conv=>whnf)))
                        exact hn59 _ () hc57 (weak_gen [] rfl rfl storeLe.nil slotsLe.nil)
                    · clear hc57 h59
                      intro s11 hc62
                      have e := Option.some.inj hc62; subst e
                      ((conv=>whnf);repeat((first|refine Ta ?_|refine Tz mix ?_|refine Tc ?_|refine Tb ?_|refine Td rfl ?_|refine Tl ?_|refine sE rfl ?_|refine dG (by kernel_rfl) ?_|fail);(conv=>whnf)))
                      exact And.intro (AV.Le.refl _) rfl
theorem c_eponymref03_May (p_x : T_api_Range) (r : Bool) (h : m_eponymref03_May p_x = some r) : Contract pl 148 [(e_api_Range p_x)] [] (AV.bool r) [] := by
  refine contract_of .z Tryd.func148 rfl (by kernel_rfl) ?_
  ((conv=>whnf);repeat((first|refine Ta ?_|refine Tz mix ?_|refine Tc ?_|refine Tb ?_|refine Td rfl ?_|refine Tl ?_|refine sE rfl ?_|refine dG (by kernel_rfl) ?_|fail);(conv=>whnf)))
  refine br_b rfl h (fun c1 h => ?_) (fun c1 h => ?_)
  · ((conv=>whnf);repeat((first|refine Ta ?_|refine Tz mix ?_|refine Tc ?_|refine Tb ?_|refine Td rfl ?_|refine Tl ?_|refine sE rfl ?_|refine dG (by kernel_rfl) ?_|fail);(conv=>whnf)))
    refine br_b rfl h (fun c2 h => ?_) (fun c2 h => ?_)
    · ((conv=>whnf);repeat((first|refine Ta ?_|refine Tz mix ?_|refine Tc ?_|refine Tb ?_|refine Td rfl ?_|refine Tl ?_|refine sE rfl ?_|refine dG (by kernel_rfl) ?_|fail);(conv=>whnf)))
      refine br_b rfl h (fun c3 h => ?_) (fun c3 h => ?_)
      · ((conv=>whnf);repeat((first|refine Ta ?_|refine Tz mix ?_|refine Tc ?_|refine Tb ?_|refine Td rfl ?_|refine Tl ?_|refine sE rfl ?_|refine dG (by kernel_rfl) ?_|fail);(conv=>whnf)))
        refine br_b rfl h (fun c4 h => ?_) (fun c4 h => ?_)
        · have e := Option.some.inj h; subst e
          ((conv=>whnf);repeat((first|refine Ta ?_|refine Tz mix ?_|refine Tc ?_|refine Tb ?_|refine Td rfl ?_|refine Tl ?_|refine sE rfl ?_|refine dG (by kernel_rfl) ?_|fail);(conv=>whnf)))
          exact And.intro (AV.Le.refl _) rfl
        · have e := Option.some.inj h; subst e
          ((conv=>whnf);repeat((first|refine Ta ?_|refine Tz mix ?_|refine Tc ?_|refine Tb ?_|refine Td rfl ?_|refine Tl ?_|refine sE rfl ?_|refine dG (by kernel_rfl) ?_|fail);(conv=>whnf)))
          exact And.intro (AV.Le.refl _) rfl
      · have e := Option.some.inj h; subst e
        ((conv=>whnf);repeat((first|refine Ta ?_|refine Tz mix ?_|refine Tc ?_|refine Tb ?_|refine Td rfl ?_|refine Tl ?_|refine sE rfl ?_|refine dG (by kernel_rfl) ?_|fail);(conv=>whnf)))
        exact And.intro (AV.Le.refl _) rfl
    · have e := Option.some.inj h; subst e
      ((conv=>whnf);repeat((first|refine Ta ?_|refine Tz mix ?_|refine Tc ?_|refine Tb ?_|refine Td rfl ?_|refine Tl ?_|refine sE rfl ?_|refine dG (by kernel_rfl) ?_|fail);(conv=>whnf)))
      exact And.intro (AV.Le.refl _) rfl
  · have e := Option.some.inj h; subst e
    ((conv=>whnf);repeat((first|refine Ta ?_|refine Tz mix ?_|refine Tc ?_|refine Tb ?_|refine Td rfl ?_|refine Tl ?_|refine sE rfl ?_|refine dG (by kernel_rfl) ?_|fail);(conv=>whnf)))
    exact And.intro (AV.Le.refl _) rfl
theorem c_eponymref03_Check (p_l : (List T_api_Range)) (r : Int × Int) (h : m_eponymref03_Check p_l = some r) : Contract pl 98 [(e_L_api_Range p_l)] [] (AV.tup [(AV.int .i64 r.1), (AV.int .i64 r.2)]) [] := by
  refine contract_of (.t false .z (.t false .z (.t true (.t false .z (.t false (.t false (.t false .z (.t false (.t false (.t false .z (.t true .z .z)) .z) .z)) .z) .z)) .z))) Tryd.func98 rfl (by kernel_rfl) ?_
  ((conv=>whnf);repeat((first|refine Ta ?_|refine Tz mix ?_|refine Tc ?_|refine Tb ?_|refine Td rfl ?_|refine Tl ?_|refine sE rfl ?_|refine dG (by kernel_rfl) ?_|fail);(conv=>whnf)))
  refine br_b rfl h (fun c13 h => ?_) (fun c13 h => ?_)
  · have e := Option.some.inj h; subst e
    ((conv=>whnf);repeat((first|refine Ta ?_|refine Tz mix ?_|refine Tc ?_|refine Tb ?_|refine Td rfl ?_|refine Tl ?_|refine sE rfl ?_|refine dG (by kernel_rfl) ?_|fail);(conv=>whnf)))
    exact And.intro (AV.Le.refl _) rfl
  · ((conv=>whnf);repeat((first|refine Ta ?_|refine Tz mix ?_|refine Tc ?_|refine Tb ?_|refine Td rfl ?_|refine Tl ?_|refine sE rfl ?_|refine dG (by kernel_rfl) ?_|fail);(conv=>whnf)))
    refine bnd h (fun x14 h14 h => ?_)
    refine cut_at (fun s1 : Unit => mkF 38 [] []) (fun s1 : Unit => some ((0 : Int), (0 : Int)) = some r) ?_ ?_
    · intro Kn14 hn14
      ((conv=>whnf);repeat((first|refine Ta ?_|refine Tz mix ?_|refine Tc ?_|refine Tb ?_|refine Td rfl ?_|refine Tl ?_|refine sE rfl ?_|refine dG (by kernel_rfl) ?_|fail);(conv=>whnf)))
      refine loop_iter (fun s4 : Int => mkF 38 [(0, (e_L_api_Range p_l)), (4, (.int .i64 s4))] []) h14 (weak_gen [] rfl rfl storeLe.nil (slotsLe.cons (And.intro rfl (AV.Le.refl _)) (slotsLe.cons (And.intro rfl (AV.Le.refl _)) slotsLe.nil))) ?_
      intro k6 s4 st6 Kn6 hn6 h6_ hs6
      ((conv=>whnf);repeat((first|refine Ta ?_|refine Tz mix ?_|refine Tc ?_|refine Tb ?_|refine Td rfl ?_|refine Tl ?_|refine sE rfl ?_|refine dG (by kernel_rfl) ?_|fail);(conv=>whnf)))
      refine br_b rfl h6_ (fun c15 h6_ => ?_) (fun c15 h6_ => ?_)
      · ((conv=>whnf);repeat((first|refine Ta ?_|refine Tz mix ?_|refine Tc ?_|refine Tb ?_|refine Td rfl ?_|refine Tl ?_|refine sE rfl ?_|refine dG (by kernel_rfl) ?_|fail);(conv=>whnf)))
        refine grd2 rfl rfl h6_ (fun h6_ => ?_)
        ((conv=>whnf);repeat((first|refine Ta ?_|refine Tz mix ?_|refine Tc ?_|refine Tb ?_|refine Td rfl ?_|refine Tl ?_|refine sE rfl ?_|refine dG (by kernel_rfl) ?_|fail);(conv=>whnf)))
        refine bnd h6_ (fun y7 hy7 h6_ => ?_)
        refine Or.inl ⟨_, c_eponymref03_May _ _ hy7, rfl, ?_⟩
        ((conv=>whnf);repeat((first|refine Ta ?_|refine Tz mix ?_|refine Tc ?_|refine Tb ?_|refine Td rfl ?_|refine Tl ?_|refine sE rfl ?_|refine dG (by kernel_rfl) ?_|fail);(conv=>whnf)))
        refine br_b rfl h6_ (fun c16 h6_ => ?_) (fun c16 h6_ => ?_)
        · have e := Option.some.inj h6_; subst e
          have e := done_out hs6; subst e
          have e := Option.some.inj h; subst e
          ((conv=>whnf);repeat((first|refine Ta ?_|refine Tz mix ?_|refine Tc ?_|refine Tb ?_|refine Td rfl ?_|refine Tl ?_|refine sE rfl ?_|refine dG (by kernel_rfl) ?_|fail);(conv=>whnf)))
          exact And.intro (AV.Le.refl _) rfl
        · ((conv=>whnf);repeat((first|refine Ta ?_|refine Tz mix ?_|refine Tc ?_|refine Tb ?_|refine Td rfl ?_|refine Tl ?_|refine sE rfl ?_|refine dG (by kernel_rfl) ?_|fail);(conv=>whnf)))
          refine bnd h6_ (fun x17 h17 h6_ => ?_)
          refine cut_at (fun s8 : Bool => mkF 38 [(0, (e_L_api_Range p_l)), (4, (.int .i64 s4)), (36, (.bool s8))] []) (fun s8 : Bool => m_eponymref03_Check_K9 s4 s8 = some st6) ?_ ?_
          · intro Kn17 hn17
            ((conv=>whnf);repeat((first|refine Ta ?_|refine Tz mix ?_|refine Tc ?_|refine Tb ?_|refine Td rfl ?_|refine Tl ?_|refine sE rfl ?_|refine dG (by kernel_rfl) ?_|fail);(conv=>whnf)))
            refine br_b rfl h17 (fun c18 h17 => ?_) (fun c18 h17 => ?_)
            · ((conv=>whnf);repeat((first|refine Ta ?_|refine Tz mix ?_|refine Tc ?_|refine Tb ?_|refine Td rfl ?_|refine Tl ?_|refine sE rfl ?_|refine dG (by kernel_rfl) ?_|fail);(conv=>whnf)))
              refine grd2 rfl rfl h17 (fun h17 => ?_)
              ((conv=>whnf);repeat((first|refine Ta ?_|refine Tz mix ?_|refine Tc ?_|refine Tb ?_|refine Td rfl ?_|refine Tl ?_|refine sE rfl ?_|refine dG (by kernel_rfl) ?_|fail);(conv=>whnf)))
              refine grd2 rfl rfl h17 (fun h17 => ?_)
              have e := Option.some.inj h17; subst e
              ((conv=>whnf);repeat((first|refine Ta ?_|refine Tz mix ?_|refine Tc ?_|refine Tb ?_|refine Td rfl ?_|refine Tl ?_|refine sE rfl ?_|refine dG (by kernel_rfl) ?_|fail);(conv=>whnf)))
              exact hn17 _ (decide ((p_l.getD (s4.toNat) d_api_Range).f_Lo ≤ (p_l.getD ((IntKind.wrap .i64 (s4 - (1 : Int))).toNat) d_api_Range).f_Hi)) h6_ (weak_gen [] rfl rfl storeLe.nil (slotsLe.cons (And.intro rfl (AV.Le.refl _)) (slotsLe.cons (And.intro rfl (AV.Le.refl _)) (slotsLe.cons (And.intro rfl (AV.Le.refl _)) slotsLe.nil))))
            · have e := Option.some.inj h17; subst e
              ((conv=>whnf);repeat((first|refine Ta ?_|refine Tz mix ?_|refine Tc ?_|refine Tb ?_|refine Td rfl ?_|refine Tl ?_|refine sE rfl ?_|refine dG (by kernel_rfl) ?_|fail);(conv=>whnf)))
              exact hn17 _ false h6_ (weak_gen [] rfl rfl storeLe.nil (slotsLe.cons (And.intro rfl (AV.Le.refl _)) (slotsLe.cons (And.intro rfl (AV.Le.refl _)) (slotsLe.cons (And.intro rfl (AV.Le.refl _)) slotsLe.nil))))
          · clear h6_ h17
            intro s8 hc19
            ((conv=>whnf);repeat((first|refine Ta ?_|refine Tz mix ?_|refine Tc ?_|refine Tb ?_|refine Td rfl ?_|refine Tl ?_|refine sE rfl ?_|refine dG (by kernel_rfl) ?_|fail);(conv=>whnf)))
            refine br_b rfl hc19 (fun c20 hc19 => ?_) (fun c20 hc19 => ?_)
            · have e := Option.some.inj hc19; subst e
              have e := done_out hs6; subst e
              have e := Option.some.inj h; subst e
              ((conv=>whnf);repeat((first|refine Ta ?_|refine Tz mix ?_|refine Tc ?_|refine Tb ?_|refine Td rfl ?_|refine Tl ?_|refine sE rfl ?_|refine dG (by kernel_rfl) ?_|fail);(conv=>whnf)))
              exact And.intro (AV.Le.refl _) rfl
            · have e := Option.some.inj hc19; subst e
              ((conv=>whnf);repeat((first|refine Ta ?_|refine Tz mix ?_|refine Tc ?_|refine Tb ?_|refine Td rfl ?_|refine Tl ?_|refine sE rfl ?_|refine dG (by kernel_rfl) ?_|fail);(conv=>whnf)))
              exact hn6 _ (IntKind.wrap .i64 (s4 + (1 : Int))) hs6 (weak_gen [] rfl rfl storeLe.nil (slotsLe.cons (And.intro rfl (AV.Le.refl _)) (slotsLe.cons (And.intro rfl (AV.Le.refl _)) slotsLe.nil)))
      · have e := Option.some.inj h6_; subst e
        have e := done_out hs6; subst e
        ((conv=>whnf);repeat((first|refine Ta ?_|refine Tz mix ?_|refine Tc ?_|refine Tb ?_|refine Td rfl ?_|refine Tl ?_|refine sE rfl ?_|refine dG (by kernel_rfl) ?_|fail);(conv=>whnf)))
        exact hn14 _ () h (weak_gen [] rfl rfl storeLe.nil slotsLe.nil)
    · clear h h14
      intro s1 hc21
      have e := Option.some.inj hc21; subst e
      ((conv=>whnf);repeat((first|refine Ta ?_|refine Tz mix ?_|refine Tc ?_|refine Tb ?_|refine Td rfl ?_|refine Tl ?_|refine sE rfl ?_|refine dG (by kernel_rfl) ?_|fail);(conv=>whnf)))
      exact And.intro (AV.Le.refl _) rfl
theorem c_eponymref04_excluded (p_t : T_api_Norm) (p_r : Int) (r : Bool) (h : m_eponymref04_excluded p_t p_r = some r) : Contract pl 92 [(e_api_Norm p_t), (AV.int .i32 p_r)] [] (AV.bool r) [] := by
  refine contract_of (.t false .z (.t true .z .z)) Tryd.func92 rfl (by kernel_rfl) ?_
  ((conv=>whnf);repeat((first|refine Ta ?_|refine Tz mix ?_|refine Tc ?_|refine Tb ?_|refine Td rfl ?_|refine Tl ?_|refine sE rfl ?_|refine dG (by kernel_rfl) ?_|fail);(conv=>whnf)))
  refine bnd h (fun x10 h10 h => ?_)
  refine cut_at (fun s1 : Unit => mkF 20 [] []) (fun s1 : Unit => some false = some r) ?_ ?_
  · intro Kn10 hn10
    ((conv=>whnf);repeat((first|refine Ta ?_|refine Tz mix ?_|refine Tc ?_|refine Tb ?_|refine Td rfl ?_|refine Tl ?_|refine sE rfl ?_|refine dG (by kernel_rfl) ?_|fail);(conv=>whnf)))
    refine loop_iter (fun s4 : Int => mkF 20 [(1, (.int .i32 p_r)), (2, (.mp 0 0 0)), (5, (.int .i64 s4))] [some ⟨3, 40, (.vals [(e_api_Norm p_t)]), false, false⟩]) h10 (weak_gen [0] rfl rfl (storeLe.cons rfl (objLe.mk id id (rowLe_vals (valsLe.cons (cellsLe_refl rfl) valsLe.nil))) storeLe.nil) (slotsLe.cons (And.intro rfl (AV.Le.refl _)) (slotsLe.cons (And.intro rfl (AV.Le.refl _)) (slotsLe.cons (And.intro rfl (AV.Le.refl _)) slotsLe.nil)))) ?_
    intro k6 s4 st6 Kn6 hn6 h6_ hs6
    ((conv=>whnf);repeat((first|refine Ta ?_|refine Tz mix ?_|refine Tc ?_|refine Tb ?_|refine Td rfl ?_|refine Tl ?_|refine sE rfl ?_|refine dG (by kernel_rfl) ?_|fail);(conv=>whnf)))
    refine br_b rfl h6_ (fun c11 h6_ => ?_) (fun c11 h6_ => ?_)
    · ((conv=>whnf);repeat((first|refine Ta ?_|refine Tz mix ?_|refine Tc ?_|refine Tb ?_|refine Td rfl ?_|refine Tl ?_|refine sE rfl ?_|refine dG (by kernel_rfl) ?_|fail);(conv=>whnf)))
      refine grd2 rfl rfl h6_ (fun h6_ => ?_)
      ((conv=>whnf);repeat((first|refine Ta ?_|refine Tz mix ?_|refine Tc ?_|refine Tb ?_|refine Td rfl ?_|refine Tl ?_|refine sE rfl ?_|refine dG (by kernel_rfl) ?_|fail);(conv=>whnf)))
      refine br_b rfl h6_ (fun c12 h6_ => ?_) (fun c12 h6_ => ?_)
      · have e := Option.some.inj h6_; subst e
        have e := done_out hs6; subst e
        have e := Option.some.inj h; subst e
        ((conv=>whnf);repeat((first|refine Ta ?_|refine Tz mix ?_|refine Tc ?_|refine Tb ?_|refine Td rfl ?_|refine Tl ?_|refine sE rfl ?_|refine dG (by kernel_rfl) ?_|fail);(conv=>whnf)))
        exact And.intro (AV.Le.refl _) rfl
      · have e := Option.some.inj h6_; subst e
        ((conv=>whnf);repeat((first|refine Ta ?_|refine Tz mix ?_|refine Tc ?_|refine Tb ?_|refine Td rfl ?_|refine Tl ?_|refine sE rfl ?_|refine dG (by kernel_rfl) ?_|fail);(conv=>whnf)))
        exact hn6 _ (IntKind.wrap .i64 (s4 + (1 : Int))) hs6 (weak_gen [0] rfl rfl (storeLe.cons rfl (objLe.mk id id (rowLe_vals (valsLe.cons (cellsLe_refl rfl) valsLe.nil))) storeLe.nil) (slotsLe.cons (And.intro rfl (AV.Le.refl _)) (slotsLe.cons (And.intro rfl (AV.Le.refl _)) (slotsLe.cons (And.intro rfl (AV.Le.refl _)) slotsLe.nil))))
    · have e := Option.some.inj h6_; subst e
      have e := done_out hs6; subst e
      ((conv=>whnf);repeat((first|refine Ta ?_|refine Tz mix ?_|refine Tc ?_|refine Tb ?_|refine Td rfl ?_|refine Tl ?_|refine sE rfl ?_|refine dG (by kernel_rfl) ?_|fail);(conv=>whnf)))
      exact hn10 _ () h (weak_gen [] rfl rfl storeLe.nil slotsLe.nil)
  · clear h h10
    intro s1 hc13
    have e := Option.some.inj hc13; subst e
    ((conv=>whnf);repeat((first|refine Ta ?_|refine Tz mix ?_|refine Tc ?_|refine Tb ?_|refine Td rfl ?_|refine Tl ?_|refine sE rfl ?_|refine dG (by kernel_rfl) ?_|fail);(conv=>whnf)))
    exact And.intro (AV.Le.refl _) rfl
theorem c_eponymref03_Find (p_l : (List T_api_Range)) (p_r : Int) (r : Int × Bool) (h : m_eponymref03_Find p_l p_r = some r) : Contract pl 90 [(e_L_api_Range p_l), (AV.int .i32 p_r)] [] (AV.tup [(AV.int .i64 r.1), (AV.bool r.2)]) [] := by
  refine contract_of (.t false .z (.t true (.t false .z (.t false (.t false (.t false .z (.t false (.t false (.t true .z .z) .z) .z)) .z) .z)) .z)) Tryd.func90 rfl (by kernel_rfl) ?_
  ((conv=>whnf);repeat((first|refine Ta ?_|refine Tz mix ?_|refine Tc ?_|refine Tb ?_|refine Td rfl ?_|refine Tl ?_|refine sE rfl ?_|refine dG (by kernel_rfl) ?_|fail);(conv=>whnf)))
  refine bnd h (fun x12 h12 h => ?_)
  refine cut_at (fun s1 : Unit => mkF 34 [] []) (fun s1 : Unit => some ((0 : Int), false) = some r) ?_ ?_
  · intro Kn12 hn12
    ((conv=>whnf);repeat((first|refine Ta ?_|refine Tz mix ?_|refine Tc ?_|refine Tb ?_|refine Td rfl ?_|refine Tl ?_|refine sE rfl ?_|refine dG (by kernel_rfl) ?_|fail);(conv=>whnf)))
    refine loop_iter (fun s4 : Int => mkF 34 [(0, (e_L_api_Range p_l)), (1, (.int .i32 p_r)), (6, (.int .i64 s4))] []) h12 (weak_gen [] rfl rfl storeLe.nil (slotsLe.cons (And.intro rfl (AV.Le.refl _)) (slotsLe.cons (And.intro rfl (AV.Le.refl _)) (slotsLe.cons (And.intro rfl (AV.Le.refl _)) slotsLe.nil)))) ?_
    intro k6 s4 st6 Kn6 hn6 h6_ hs6
    ((conv=>whnf);repeat((first|refine Ta ?_|refine Tz mix ?_|refine Tc ?_|refine Tb ?_|refine Td rfl ?_|refine Tl ?_|refine sE rfl ?_|refine dG (by kernel_rfl) ?_|fail);(conv=>whnf)))
    refine br_b rfl h6_ (fun c13 h6_ => ?_) (fun c13 h6_ => ?_)
    · ((conv=>whnf);repeat((first|refine Ta ?_|refine Tz mix ?_|refine Tc ?_|refine Tb ?_|refine Td rfl ?_|refine Tl ?_|refine sE rfl ?_|refine dG (by kernel_rfl) ?_|fail);(conv=>whnf)))
      refine bnd h6_ (fun x14 h14 h6_ => ?_)
      refine cut_at (fun s7 : Bool => mkF 34 [(0, (e_L_api_Range p_l)), (1, (.int .i32 p_r)), (6, (.int .i64 s4)), (28, (.bool s7))] []) (fun s7 : Bool => m_eponymref03_Find_K8 p_l s4 s7 = some st6) ?_ ?_
      · intro Kn14 hn14
        ((conv=>whnf);repeat((first|refine Ta ?_|refine Tz mix ?_|refine Tc ?_|refine Tb ?_|refine Td rfl ?_|refine Tl ?_|refine sE rfl ?_|refine dG (by kernel_rfl) ?_|fail);(conv=>whnf)))
        refine grd2 rfl rfl h14 (fun h14 => ?_)
        ((conv=>whnf);repeat((first|refine Ta ?_|refine Tz mix ?_|refine Tc ?_|refine Tb ?_|refine Td rfl ?_|refine Tl ?_|refine sE rfl ?_|refine dG (by kernel_rfl) ?_|fail);(conv=>whnf)))
        refine br_b rfl h14 (fun c15 h14 => ?_) (fun c15 h14 => ?_)
        · ((conv=>whnf);repeat((first|refine Ta ?_|refine Tz mix ?_|refine Tc ?_|refine Tb ?_|refine Td rfl ?_|refine Tl ?_|refine sE rfl ?_|refine dG (by kernel_rfl) ?_|fail);(conv=>whnf)))
          refine grd2 rfl rfl h14 (fun h14 => ?_)
          have e := Option.some.inj h14; subst e
          ((conv=>whnf);repeat((first|refine Ta ?_|refine Tz mix ?_|refine Tc ?_|refine Tb ?_|refine Td rfl ?_|refine Tl ?_|refine sE rfl ?_|refine dG (by kernel_rfl) ?_|fail);(conv=>whnf)))
          exact hn14 _ (decide (p_r ≤ (p_l.getD (s4.toNat) d_api_Range).f_Hi)) h6_ (weak_gen [] rfl rfl storeLe.nil (slotsLe.cons (And.intro rfl (AV.Le.refl _)) (slotsLe.cons (And.intro rfl (AV.Le.refl _)) (slotsLe.cons (And.intro rfl (AV.Le.refl _)) (slotsLe.cons (And.intro rfl (AV.Le.refl _)) slotsLe.nil)))))
        · have e := Option.some.inj h14; subst e
          ((conv=>whnf);repeat((first|refine Ta ?_|refine Tz mix ?_|refine Tc ?_|refine Tb ?_|refine Td rfl ?_|refine Tl ?_|refine sE rfl ?_|refine dG (by kernel_rfl) ?_|fail);(conv=>whnf)))
          exact hn14 _ false h6_ (weak_gen [] rfl rfl storeLe.nil (slotsLe.cons (And.intro rfl (AV.Le.refl _)) (slotsLe.cons (And.intro rfl (AV.Le.refl _)) (slotsLe.cons (And.intro rfl (AV.Le.refl _)) (slotsLe.cons (And.intro rfl (AV.Le.refl _)) slotsLe.nil)))))
      · clear h6_ h14
        intro s7 hc16
        ((conv=>whnf);repeat((first|refine Ta ?_|refine Tz mix ?_|refine Tc ?_|refine Tb ?_|refine Td rfl ?_|refine Tl ?_|refine sE rfl ?_|refine dG (by kernel_rfl) ?_|fail);(conv=>whnf)))
        refine br_b rfl hc16 (fun c17 hc16 => ?_) (fun c17 hc16 => ?_)
        · ((conv=>whnf);repeat((first|refine Ta ?_|refine Tz mix ?_|refine Tc ?_|refine Tb ?_|refine Td rfl ?_|refine Tl ?_|refine sE rfl ?_|refine dG (by kernel_rfl) ?_|fail);(conv=>whnf)))
          refine grd2 rfl rfl hc16 (fun hc16 => ?_)
          have e := Option.some.inj hc16; subst e
          have e := done_out hs6; subst e
          have e := Option.some.inj h; subst e
          ((conv=>whnf);repeat((first|refine Ta ?_|refine Tz mix ?_|refine Tc ?_|refine Tb ?_|refine Td rfl ?_|refine Tl ?_|refine sE rfl ?_|refine dG (by kernel_rfl) ?_|fail);(conv=>whnf)))
          exact And.intro (AV.Le.refl _) rfl
        · have e := Option.some.inj hc16; subst e
          ((conv=>whnf);repeat((first|refine Ta ?_|refine Tz mix ?_|refine Tc ?_|refine Tb ?_|refine Td rfl ?_|refine Tl ?_|refine sE rfl ?_|refine dG (by kernel_rfl) ?_|fail);(conv=>whnf)))
          exact hn6 _ (IntKind.wrap .i64 (s4 + (1 : Int))) hs6 (weak_gen [] rfl rfl storeLe.nil (slotsLe.cons (And.intro rfl (AV.Le.refl _)) (slotsLe.cons (And.intro rfl (AV.Le.refl _)) (slotsLe.cons (And.intro rfl (AV.Le.refl _)) slotsLe.nil))))
    · have e := Option.some.inj h6_; subst e
      have e := done_out hs6; subst e
      ((conv=>whnf);repeat((first|refine Ta ?_|refine Tz mix ?_|refine Tc ?_|refine Tb ?_|refine Td rfl ?_|refine Tl ?_|refine sE rfl ?_|refine dG (by kernel_rfl) ?_|fail);(conv=>whnf)))
      exact hn12 _ () h (weak_gen [] rfl rfl storeLe.nil slotsLe.nil)
  · clear h h12
    intro s1 hc18
    have e := Option.some.inj hc18; subst e
    ((conv=>whnf);repeat((first|refine Ta ?_|refine Tz mix ?_|refine Tc ?_|refine Tb ?_|refine Td rfl ?_|refine Tl ?_|refine sE rfl ?_|refine dG (by kernel_rfl) ?_|fail);(conv=>whnf)))
    exact And.intro (AV.Le.refl _) rfl
theorem c_eponymref04_Class (p_t : T_api_Norm) (p_r : Int) (r : Int) (h : m_eponymref04_Class p_t p_r = some r) : Contract pl 36 [(e_api_Norm p_t), (AV.int .i32 p_r)] [] (AV.int .i64 r) [] := by
  refine contract_of .z Tryd.func36 rfl (by kernel_rfl) ?_
  ((conv=>whnf);repeat((first|refine Ta ?_|refine Tz mix ?_|refine Tc ?_|refine Tb ?_|refine Td rfl ?_|refine Tl ?_|refine sE rfl ?_|refine dG (by kernel_rfl) ?_|fail);(conv=>whnf)))
  refine bnd h (fun y1 hy1 h => ?_)
  refine Or.inl ⟨_, c_eponymref03_Find _ _ _ hy1, rfl, ?_⟩
  have e := Option.some.inj h; subst e
  ((conv=>whnf);repeat((first|refine Ta ?_|refine Tz mix ?_|refine Tc ?_|refine Tb ?_|refine Td rfl ?_|refine Tl ?_|refine sE rfl ?_|refine dG (by kernel_rfl) ?_|fail);(conv=>whnf)))
  exact And.intro (AV.Le.refl _) rfl
theorem c_eponymref04_Composes (p_t : T_api_Norm) (p_i : Int) (r : Bool) (h : m_eponymref04_Composes p_t p_i = some r) : Contract pl 38 [(e_api_Norm p_t), (AV.int .i64 p_i)] [] (AV.bool r) [] := by
  refine contract_of (.t false .z (.t false (.t true .z .z) .z)) Tryd.func38 rfl (by kernel_rfl) ?_
  ((conv=>whnf);repeat((first|refine Ta ?_|refine Tz mix ?_|refine Tc ?_|refine Tb ?_|refine Td rfl ?_|refine Tl ?_|refine sE rfl ?_|refine dG (by kernel_rfl) ?_|fail);(conv=>whnf)))
  refine bnd h (fun x6 h6 h => ?_)
  refine cut_at (fun s1 : Bool => mkF 57 [(1, (.int .i64 p_i)), (2, (.mp 0 0 0)), (23, (.bool s1))] [some ⟨3, 40, (.vals [(e_api_Norm p_t)]), false, false⟩]) (fun s1 : Bool => m_eponymref04_Composes_K2 p_t p_i s1 = some r) ?_ ?_
  · intro Kn6 hn6
    ((conv=>whnf);repeat((first|refine Ta ?_|refine Tz mix ?_|refine Tc ?_|refine Tb ?_|refine Td rfl ?_|refine Tl ?_|refine sE rfl ?_|refine dG (by kernel_rfl) ?_|fail);(conv=>whnf)))
    refine br_b rfl h6 (fun c7 h6 => ?_) (fun c7 h6 => ?_)
    · have e := Option.some.inj h6; subst e
      ((conv=>whnf);repeat((first|refine Ta ?_|refine Tz mix ?_|refine Tc ?_|refine Tb ?_|refine Td rfl ?_|refine Tl ?_|refine sE rfl ?_|refine dG (by kernel_rfl) ?_|fail);(conv=>whnf)))
      exact hn6 _ true h (weak_gen [0] rfl rfl (storeLe.cons rfl (objLe.mk id id (rowLe_vals (valsLe.cons (cellsLe_refl rfl) valsLe.nil))) storeLe.nil) (slotsLe.cons (And.intro rfl (AV.Le.refl _)) (slotsLe.cons (And.intro rfl (AV.Le.refl _)) (slotsLe.cons (And.intro rfl (AV.Le.refl _)) slotsLe.nil))))
    · ((conv=>whnf);repeat((first|refine Ta ?_|refine Tz mix ?_|refine Tc ?_|refine Tb ?_|refine Td rfl ?_|refine Tl ?_|refine sE rfl ?_|refine dG (by kernel_rfl) ?_|fail);(conv=>whnf)))
      refine br_b rfl h6 (fun c8 h6 => ?_) (fun c8 h6 => ?_)
      · have e := Option.some.inj h6; subst e
        ((conv=>whnf);repeat((first|refine Ta ?_|refine Tz mix ?_|refine Tc ?_|refine Tb ?_|refine Td rfl ?_|refine Tl ?_|refine sE rfl ?_|refine dG (by kernel_rfl) ?_|fail);(conv=>whnf)))
        exact hn6 _ true h (weak_gen [0] rfl rfl (storeLe.cons rfl (objLe.mk id id (rowLe_vals (valsLe.cons (cellsLe_refl rfl) valsLe.nil))) storeLe.nil) (slotsLe.cons (And.intro rfl (AV.Le.refl _)) (slotsLe.cons (And.intro rfl (AV.Le.refl _)) (slotsLe.cons (And.intro rfl (AV.Le.refl _)) slotsLe.nil))))
      · ((conv=>whnf);repeat((first|refine Ta ?_|refine Tz mix ?_|refine Tc ?_|refine Tb ?_|refine Td rfl ?_|refine Tl ?_|refine sE rfl ?_|refine dG (by kernel_rfl) ?_|fail);(conv=>whnf)))
        refine grd2 rfl rfl h6 (fun h6 => ?_)
        have e := Option.some.inj h6; subst e
        ((conv=>whnf);repeat((first|refine Ta ?_|refine Tz mix ?_|refine Tc ?_|refine Tb ?_|refine Td rfl ?_|refine Tl ?_|refine sE rfl ?_|refine dG (by kernel_rfl) ?_|fail);(conv=>whnf)))
        exact hn6 _ ((((p_t.f_Rows.getD (p_i.toNat) d_api_Row).f_To.length : Nat) : Int) != (2 : Int)) h (weak_gen [0] rfl rfl (storeLe.cons rfl (objLe.mk id id (rowLe_vals (valsLe.cons (cellsLe_refl rfl) valsLe.nil))) storeLe.nil) (slotsLe.cons (And.intro rfl (AV.Le.refl _)) (slotsLe.cons (And.intro rfl (AV.Le.refl _)) (slotsLe.cons (And.intro rfl (AV.Le.refl _)) slotsLe.nil))))
  · clear h h6
    intro s1 hc9
    ((conv=>whnf);repeat((first|refine Ta ?_|refine Tz mix ?_|refine Tc ?_|refine Tb ?_|refine Td rfl ?_|refine Tl ?_|refine sE rfl ?_|refine dG (by kernel_rfl) ?_|fail);(conv=>whnf)))
    refine br_b rfl hc9 (fun c10 hc9 => ?_) (fun c10 hc9 => ?_)
    · have e := Option.some.inj hc9; subst e
      ((conv=>whnf);repeat((first|refine Ta ?_|refine Tz mix ?_|refine Tc ?_|refine Tb ?_|refine Td rfl ?_|refine Tl ?_|refine sE rfl ?_|refine dG (by kernel_rfl) ?_|fail);(conv=>whnf)))
      exact And.intro (AV.Le.refl _) rfl
    · ((conv=>whnf);repeat((first|refine Ta ?_|refine Tz mix ?_|refine Tc ?_|refine Tb ?_|refine Td rfl ?_|refine Tl ?_|refine sE rfl ?_|refine dG (by kernel_rfl) ?_|fail);(conv=>whnf)))
      refine grd2 rfl rfl hc9 (fun hc9 => ?_)
      ((conv=>whnf);repeat((first|refine Ta ?_|refine Tz mix ?_|refine Tc ?_|refine Tb ?_|refine Td rfl ?_|refine Tl ?_|refine sE rfl ?_|refine dG (by kernel_rfl) ?_|fail);(conv=>whnf)))
      refine bnd hc9 (fun y3 hy3 hc9 => ?_)
      refine Or.inl ⟨_, c_eponymref04_excluded _ _ _ hy3, rfl, ?_⟩
      ((conv=>whnf);repeat((first|refine Ta ?_|refine Tz mix ?_|refine Tc ?_|refine Tb ?_|refine Td rfl ?_|refine Tl ?_|refine sE rfl ?_|refine dG (by kernel_rfl) ?_|fail);(conv=>whnf)))
      refine br_b rfl hc9 (fun c11 hc9 => ?_) (fun c11 hc9 => ?_)
      · ((conv=>whnf);repeat((first|refine Ta ?_|refine Tz mix ?_|refine Tc ?_|refine Tb ?_|refine Td rfl ?_|refine Tl ?_|refine sE rfl ?_|refine dG (by kernel_rfl) ?_|fail);(conv=>whnf)))
        refine grd2 rfl rfl hc9 (fun hc9 => ?_)
        ((conv=>whnf);repeat((first|refine Ta ?_|refine Tz mix ?_|refine Tc ?_|refine Tb ?_|refine Td rfl ?_|refine Tl ?_|refine sE rfl ?_|refine dG (by kernel_rfl) ?_|fail);(conv=>whnf)))
        refine bnd hc9 (fun y4 hy4 hc9 => ?_)
        refine Or.inl ⟨_, c_eponymref04_Class _ _ _ hy4, rfl, ?_⟩
        ((conv=>whnf);repeat((first|refine Ta ?_|refine Tz mix ?_|refine Tc ?_|refine Tb ?_|refine Td rfl ?_|refine Tl ?_|refine sE rfl ?_|refine dG (by kernel_rfl) ?_|fail);(conv=>whnf)))
        refine br_b rfl hc9 (fun c12 hc9 => ?_) (fun c12 hc9 => ?_)
        · ((conv=>whnf);repeat((first|refine Ta ?_|refine Tz mix ?_|refine Tc ?_|refine Tb ?_|refine Td rfl ?_|refine Tl ?_|refine sE rfl ?_|refine dG (by kernel_rfl) ?_|fail);(conv=>whnf)))
          refine grd2 rfl rfl hc9 (fun hc9 => ?_)
          ((conv=>whnf);repeat((first|refine Ta ?_|refine Tz mix ?_|refine Tc ?_|refine Tb ?_|refine Td rfl ?_|refine Tl ?_|refine sE rfl ?_|refine dG (by kernel_rfl) ?_|fail);(conv=>whnf)))
          refine grd2 rfl rfl hc9 (fun hc9 => ?_)
          ((conv=>whnf);repeat((first|refine Ta ?_|refine Tz mix ?_|refine Tc ?_|refine Tb ?_|refine Td rfl ?_|refine Tl ?_|refine sE rfl ?_|refine dG (by kernel_rfl) ?_|fail);(conv=>whnf)))
          refine bnd hc9 (fun y5 hy5 hc9 => ?_)
          refine Or.inl ⟨_, c_eponymref04_Class _ _ _ hy5, rfl, ?_⟩
          have e := Option.some.inj hc9; subst e
          ((conv=>whnf);repeat((first|refine Ta ?_|refine Tz mix ?_|refine Tc ?_|refine Tb ?_|refine Td rfl ?_|refine Tl ?_|refine sE rfl ?_|refine dG (by kernel_rfl) ?_|fail);(conv=>whnf)))
          exact And.intro (AV.Le.refl _) rfl
        · have e := Option.some.inj hc9; subst e
          ((conv=>whnf);repeat((first|refine Ta ?_|refine Tz mix ?_|refine Tc ?_|refine Tb ?_|refine Td rfl ?_|refine Tl ?_|refine sE rfl ?_|refine dG (by kernel_rfl) ?_|fail);(conv=>whnf)))
          exact And.intro (AV.Le.refl _) rfl
      · have e := Option.some.inj hc9; subst e
        ((conv=>whnf);repeat((first|refine Ta ?_|refine Tz mix ?_|refine Tc ?_|refine Tb ?_|refine Td rfl ?_|refine Tl ?_|refine sE rfl ?_|refine dG (by kernel_rfl) ?_|fail);(conv=>whnf)))
        exact And.intro (AV.Le.refl _) rfl
theorem c_eponymref04_Check (p_t : T_api_Norm) (r : Int × Int) (h : m_eponymref04_Check p_t = some r) : Contract pl 67 [(e_api_Norm p_t)] [] (AV.tup [(AV.int .i64 r.1), (AV.int .i64 r.2)]) [] := by
  refine contract_of (.t false .z (.t false (.t true .z .z) (.t true .z (.t false .z (.t true (.t false .z (.t false (.t false (.t false .z (.t true (.t false (.t false (.t true .z .z) .z) .z) .z)) .z) .z)) (.t true (.t false .z (.t false (.t false (.t false .z (.t false (.t false (.t false .z (.t true .z .z)) .z) .z)) .z) .z)) (.t true (.t false .z (.t false (.t false (.t false .z (.t true (.t false (.t false .z (.t false (.t false (.t false .z (.t false (.t false (.t true .z .z) .z) .z)) .z) .z)) .z) .z)) .z) .z)) .z))))))) Tryd.func67 rfl (by kernel_rfl) ?_
  ((conv=>whnf);repeat((first|refine Ta ?_|refine Tz mix ?_|refine Tc ?_|refine Tb ?_|refine Td rfl ?_|refine Tl ?_|refine sE rfl ?_|refine dG (by kernel_rfl) ?_|fail);(conv=>whnf)))
  refine bnd h (fun x69 h69 h => ?_)
  refine cut_at (fun s1 : Bool => mkF 181 [(1, (.mp 0 0 0)), (22, (.bool s1))] [some ⟨3, 40, (.vals [(e_api_Norm p_t)]), false, false⟩]) (fun s1 : Bool => m_eponymref04_Check_K2 p_t s1 = some r) ?_ ?_
  · intro Kn69 hn69
    ((conv=>whnf);repeat((first|refine Ta ?_|refine Tz mix ?_|refine Tc ?_|refine Tb ?_|refine Td rfl ?_|refine Tl ?_|refine sE rfl ?_|refine dG (by kernel_rfl) ?_|fail);(conv=>whnf)))
    refine br_b rfl h69 (fun c70 h69 => ?_) (fun c70 h69 => ?_)
    · have e := Option.some.inj h69; subst e
      ((conv=>whnf);repeat((first|refine Ta ?_|refine Tz mix ?_|refine Tc ?_|refine Tb ?_|refine Td rfl ?_|refine Tl ?_|refine sE rfl ?_|refine dG (by kernel_rfl) ?_|fail);(conv=>whnf)))
      exact hn69 _ true h (weak_gen [0] rfl rfl (storeLe.cons rfl (objLe.mk id id (rowLe_vals (valsLe.cons (cellsLe_refl rfl) valsLe.nil))) storeLe.nil) (slotsLe.cons (And.intro rfl (AV.Le.refl _)) (slotsLe.cons (And.intro rfl (AV.Le.refl _)) slotsLe.nil)))
    · have e := Option.some.inj h69; subst e
      ((conv=>whnf);repeat((first|refine Ta ?_|refine Tz mix ?_|refine Tc ?_|refine Tb ?_|refine Td rfl ?_|refine Tl ?_|refine sE rfl ?_|refine dG (by kernel_rfl) ?_|fail);(conv=>whnf)))
      exact hn69 _ (decide (((p_t.f_Excluded.length : Nat) : Int) > (2000 : Int))) h (weak_gen [0] rfl rfl (storeLe.cons rfl (objLe.mk id id (rowLe_vals (valsLe.cons (cellsLe_refl rfl) valsLe.nil))) storeLe.nil) (slotsLe.cons (And.intro rfl (AV.Le.refl _)) (slotsLe.cons (And.intro rfl (AV.Le.refl _)) slotsLe.nil)))
  · clear h h69
    intro s1 hc71
    ((conv=>whnf);repeat((first|refine Ta ?_|refine Tz mix ?_|refine Tc ?_|refine Tb ?_|refine Td rfl ?_|refine Tl ?_|refine sE rfl ?_|refine dG (by kernel_rfl) ?_|fail);(conv=>whnf)))
    refine br_b rfl hc71 (fun c72 hc71 => ?_) (fun c72 hc71 => ?_)
    · have e := Option.some.inj hc71; subst e
      ((conv=>whnf);repeat((first|refine Ta ?_|refine Tz mix ?_|refine Tc ?_|refine Tb ?_|refine Td rfl ?_|refine Tl ?_|refine sE rfl ?_|refine dG (by kernel_rfl) ?_|fail);(conv=>whnf)))
      exact And.intro (AV.Le.refl _) rfl
    · ((conv=>whnf);repeat((first|refine Ta ?_|refine Tz mix ?_|refine Tc ?_|refine Tb ?_|refine Td rfl ?_|refine Tl ?_|refine sE rfl ?_|refine dG (by kernel_rfl) ?_|fail);(conv=>whnf)))
      refine bnd hc71 (fun x73 h73 hc71 => ?_)
      refine cut_at (fun s3 : Unit => mkF 181 [(1, (.mp 0 0 0))] [some ⟨3, 40, (.vals [(e_api_Norm p_t)]), false, false⟩]) (fun s3 : Unit => m_eponymref04_Check_K4 p_t s3 = some r) ?_ ?_
      · intro Kn73 hn73
        ((conv=>whnf);repeat((first|refine Ta ?_|refine Tz mix ?_|refine Tc ?_|refine Tb ?_|refine Td rfl ?_|refine Tl ?_|refine sE rfl ?_|refine dG (by kernel_rfl) ?_|fail);(conv=>whnf)))
        refine loop_iter (fun s62 : Int => mkF 181 [(1, (.mp 0 0 0)), (4, (.int .i64 s62))] [some ⟨3, 40, (.vals [(e_api_Norm p_t)]), false, false⟩]) h73 (weak_gen [0] rfl rfl (storeLe.cons rfl (objLe.mk id id (rowLe_vals (valsLe.cons (cellsLe_refl rfl) valsLe.nil))) storeLe.nil) (slotsLe.cons (And.intro rfl (AV.Le.refl _)) (slotsLe.cons (And.intro rfl (AV.Le.refl _)) slotsLe.nil))) ?_
        intro k64 s62 st64 Kn64 hn64 h64_ hs64
        ((conv=>whnf);repeat((first|refine Ta ?_|refine Tz mix ?_|refine Tc ?_|refine Tb ?_|refine Td rfl ?_|refine Tl ?_|refine sE rfl ?_|refine dG (by kernel_rfl) ?_|fail);(conv=>whnf)))
        refine br_b rfl h64_ (fun c74 h64_ => ?_) (fun c74 h64_ => ?_)
        · ((conv=>whnf);repeat((first|refine Ta ?_|refine Tz mix ?_|refine Tc ?_|refine Tb ?_|refine Td rfl ?_|refine Tl ?_|refine sE rfl ?_|refine dG (by kernel_rfl) ?_|fail);(conv=>whnf)))
          refine bnd h64_ (fun y65 hy65 h64_ => ?_)
          refine Or.inl ⟨_, c_eponymref04_row _ _ _ hy65, rfl, ?_⟩
          ((conv=>whnf);repeat((first|refine Ta ?_|refine Tz mix ?_|refine Tc ?_|refine Tb ?_|refine Td rfl ?_|refine Tl ?_|refine sE rfl ?_|refine dG (by kernel_rfl) ?_|fail);(conv=>whnf)))
          refine br_b rfl h64_ (fun c75 h64_ => ?_) (fun c75 h64_ => ?_)
          · have e := Option.some.inj h64_; subst e
            have e := done_out hs64; subst e
            have e := Option.some.inj hc71; subst e
            ((conv=>whnf);repeat((first|refine Ta ?_|refine Tz mix ?_|refine Tc ?_|refine Tb ?_|refine Td rfl ?_|refine Tl ?_|refine sE rfl ?_|refine dG (by kernel_rfl) ?_|fail);(conv=>whnf)))
            exact And.intro (AV.Le.refl _) rfl
          · have e := Option.some.inj h64_; subst e
            ((conv=>whnf);repeat((first|refine Ta ?_|refine Tz mix ?_|refine Tc ?_|refine Tb ?_|refine Td rfl ?_|refine Tl ?_|refine sE rfl ?_|refine dG (by kernel_rfl) ?_|fail);(conv=>whnf)))
            exact hn64 _ (IntKind.wrap .i64 (s62 + (1 : Int))) hs64 (weak_gen [0] rfl rfl (storeLe.cons rfl (objLe.mk id id (rowLe_vals (valsLe.cons (cellsLe_refl rfl) valsLe.nil))) storeLe.nil) (slotsLe.cons (And.intro rfl (AV.Le.refl _)) (slotsLe.cons (And.intro rfl (AV.Le.refl _)) slotsLe.nil)))
        · have e := Option.some.inj h64_; subst e
          have e := done_out hs64; subst e
          ((conv=>whnf);repeat((first|refine Ta ?_|refine Tz mix ?_|refine Tc ?_|refine Tb ?_|refine Td rfl ?_|refine Tl ?_|refine sE rfl ?_|refine dG (by kernel_rfl) ?_|fail);(conv=>whnf)))
          exact hn73 _ () hc71 (weak_gen [0] rfl rfl (storeLe.cons rfl (objLe.mk id id (rowLe_vals (valsLe.cons (cellsLe_refl rfl) valsLe.nil))) storeLe.nil) (slotsLe.cons (And.intro rfl (AV.Le.refl _)) slotsLe.nil))
      · clear hc71 h73
        intro s3 hc76
        ((conv=>whnf);repeat((first|refine Ta ?_|refine Tz mix ?_|refine Tc ?_|refine Tb ?_|refine Td rfl ?_|refine Tl ?_|refine sE rfl ?_|refine dG (by kernel_rfl) ?_|fail);(conv=>whnf)))
        refine bnd hc76 (fun y5 hy5 hc76 => ?_)
        refine Or.inl ⟨_, c_eponymref03_Check _ _ hy5, rfl, ?_⟩
        ((conv=>whnf);repeat((first|refine Ta ?_|refine Tz mix ?_|refine Tc ?_|refine Tb ?_|refine Td rfl ?_|refine Tl ?_|refine sE rfl ?_|refine dG (by kernel_rfl) ?_|fail);(conv=>whnf)))
        refine br_b rfl hc76 (fun c77 hc76 => ?_) (fun c77 hc76 => ?_)
        · have e := Option.some.inj hc76; subst e
          ((conv=>whnf);repeat((first|refine Ta ?_|refine Tz mix ?_|refine Tc ?_|refine Tb ?_|refine Td rfl ?_|refine Tl ?_|refine sE rfl ?_|refine dG (by kernel_rfl) ?_|fail);(conv=>whnf)))
          exact And.intro (AV.Le.refl _) rfl
        · ((conv=>whnf);repeat((first|refine Ta ?_|refine Tz mix ?_|refine Tc ?_|refine Tb ?_|refine Td rfl ?_|refine Tl ?_|refine sE rfl ?_|refine dG (by kernel_rfl) ?_|fail);(conv=>whnf)))
          refine bnd hc76 (fun x78 h78 hc76 => ?_)
          refine cut_at (fun s6 : Unit => mkF 181 [(1, (.mp 0 0 0))] [some ⟨3, 40, (.vals [(e_api_Norm p_t)]), false, false⟩]) (fun s6 : Unit => m_eponymref04_Check_K7 p_t s6 = some r) ?_ ?_
          · intro Kn78 hn78
            ((conv=>whnf);repeat((first|refine Ta ?_|refine Tz mix ?_|refine Tc ?_|refine Tb ?_|refine Td rfl ?_|refine Tl ?_|refine sE rfl ?_|refine dG (by kernel_rfl) ?_|fail);(conv=>whnf)))
            refine loop_iter (fun s43 : Int => mkF 181 [(1, (.mp 0 0 0)), (8, (.int .i64 s43))] [some ⟨3, 40, (.vals [(e_api_Norm p_t)]), false, false⟩]) h78 (weak_gen [0] rfl rfl (storeLe.cons rfl (objLe.mk id id (rowLe_vals (valsLe.cons (cellsLe_refl rfl) valsLe.nil))) storeLe.nil) (slotsLe.cons (And.intro rfl (AV.Le.refl _)) (slotsLe.cons (And.intro rfl (AV.Le.refl _)) slotsLe.nil))) ?_
            intro k45 s43 st45 Kn45 hn45 h45_ hs45
            ((conv=>whnf);repeat((first|refine Ta ?_|refine Tz mix ?_|refine Tc ?_|refine Tb ?_|refine Td rfl ?_|refine Tl ?_|refine sE rfl ?_|refine dG (by kernel_rfl) ?_|fail);(conv=>whnf)))
            refine br_b rfl h45_ (fun c79 h45_ => ?_) (fun c79 h45_ => ?_)
            · ((conv=>whnf);repeat((first|refine Ta ?_|refine Tz mix ?_|refine Tc ?_|refine Tb ?_|refine Td rfl ?_|refine Tl ?_|refine sE rfl ?_|refine dG (by kernel_rfl) ?_|fail);(conv=>whnf)))
              refine bnd h45_ (fun x80 h80 h45_ => ?_)
              refine cut_at (fun s46 : Unit => mkF 181 [(1, (.mp 0 0 0)), (8, (.int .i64 s43))] [some ⟨3, 40, (.vals [(e_api_Norm p_t)]), false, false⟩]) (fun s46 : Unit => some (.next (IntKind.wrap .i64 (s43 + (1 : Int)))) = some st45) ?_ ?_
              · intro Kn80 hn80
                ((conv=>whnf);repeat((first|refine Ta ?_|refine Tz mix ?_|refine Tc ?_|refine Tb ?_|refine Td rfl ?_|refine Tl ?_|refine sE rfl ?_|refine dG (by kernel_rfl) ?_|fail);(conv=>whnf)))
                refine bnd h80 (fun x81 h81 h80 => ?_)
                refine cut_at (fun s48 : Bool => mkF 181 [(1, (.mp 0 0 0)), (8, (.int .i64 s43)), (69, (.bool s48))] [some ⟨3, 40, (.vals [(e_api_Norm p_t)]), false, false⟩]) (fun s48 : Bool => m_eponymref04_Check_K49 p_t s43 s48 = some x80) ?_ ?_
                · intro Kn81 hn81
                  ((conv=>whnf);repeat((first|refine Ta ?_|refine Tz mix ?_|refine Tc ?_|refine Tb ?_|refine Td rfl ?_|refine Tl ?_|refine sE rfl ?_|refine dG (by kernel_rfl) ?_|fail);(conv=>whnf)))
                  refine grd2 rfl rfl h81 (fun h81 => ?_)
                  ((conv=>whnf);repeat((first|refine Ta ?_|refine Tz mix ?_|refine Tc ?_|refine Tb ?_|refine Td rfl ?_|refine Tl ?_|refine sE rfl ?_|refine dG (by kernel_rfl) ?_|fail);(conv=>whnf)))
                  refine br_b rfl h81 (fun c82 h81 => ?_) (fun c82 h81 => ?_)
                  · have e := Option.some.inj h81; subst e
                    ((conv=>whnf);repeat((first|refine Ta ?_|refine Tz mix ?_|refine Tc ?_|refine Tb ?_|refine Td rfl ?_|refine Tl ?_|refine sE rfl ?_|refine dG (by kernel_rfl) ?_|fail);(conv=>whnf)))
                    exact hn81 _ true h80 (weak_gen [0] rfl rfl (storeLe.cons rfl (objLe.mk id id (rowLe_vals (valsLe.cons (cellsLe_refl rfl) valsLe.nil))) storeLe.nil) (slotsLe.cons (And.intro rfl (AV.Le.refl _)) (slotsLe.cons (And.intro rfl (AV.Le.refl _)) (slotsLe.cons (And.intro rfl (AV.Le.refl _)) slotsLe.nil))))
                  · ((conv=>whnf);repeat((first|refine Ta ?_|refine Tz mix ?_|refine Tc ?_|refine Tb ?_|refine Td rfl ?_|refine Tl ?_|refine sE rfl ?_|refine dG (by kernel_rfl) ?_|fail);(conv=>whnf)))
                    refine grd2 rfl rfl h81 (fun h81 => ?_)
                    have e := Option.some.inj h81; subst e
                    ((conv=>whnf);repeat((first|refine Ta ?_|refine Tz mix ?_|refine Tc ?_|refine Tb ?_|refine Td rfl ?_|refine Tl ?_|refine sE rfl ?_|refine dG (by kernel_rfl) ?_|fail);(conv=>whnf)))
                    exact hn81 _ (decide ((p_t.f_Classes.getD (s43.toNat) d_api_Range).f_Value > (254 : Int))) h80 (weak_gen [0] rfl rfl (storeLe.cons rfl (objLe.mk id id (rowLe_vals (valsLe.cons (cellsLe_refl rfl) valsLe.nil))) storeLe.nil) (slotsLe.cons (And.intro rfl (AV.Le.refl _)) (slotsLe.cons (And.intro rfl (AV.Le.refl _)) (slotsLe.cons (And.intro rfl (AV.Le.refl _)) slotsLe.nil))))
                · clear h80 h81
                  intro s48 hc83
                  ((conv=>whnf);repeat((first|refine Ta ?_|refine Tz mix ?_|refine Tc ?_|refine Tb ?_|refine Td rfl ?_|refine Tl ?_|refine sE rfl ?_|refine dG (by kernel_rfl) ?_|fail);(conv=>whnf)))
                  refine br_b rfl hc83 (fun c84 hc83 => ?_) (fun c84 hc83 => ?_)
                  · have e := Option.some.inj hc83; subst e
                    have e := Option.some.inj h45_; subst e
                    have e := done_out hs45; subst e
                    have e := Option.some.inj hc76; subst e
                    ((conv=>whnf);repeat((first|refine Ta ?_|refine Tz mix ?_|refine Tc ?_|refine Tb ?_|refine Td rfl ?_|refine Tl ?_|refine sE rfl ?_|refine dG (by kernel_rfl) ?_|fail);(conv=>whnf)))
                    exact And.intro (AV.Le.refl _) rfl
                  · ((conv=>whnf);repeat((first|refine Ta ?_|refine Tz mix ?_|refine Tc ?_|refine Tb ?_|refine Td rfl ?_|refine Tl ?_|refine sE rfl ?_|refine dG (by kernel_rfl) ?_|fail);(conv=>whnf)))
                    refine grd2 rfl rfl hc83 (fun hc83 => ?_)
                    ((conv=>whnf);repeat((first|refine Ta ?_|refine Tz mix ?_|refine Tc ?_|refine Tb ?_|refine Td rfl ?_|refine Tl ?_|refine sE rfl ?_|refine dG (by kernel_rfl) ?_|fail);(conv=>whnf)))
                    refine bnd hc83 (fun x53 hx53 hc83 => ?_)
                    refine loop_iter (fun s51 : Int => mkF 181 [(1, (.mp 0 0 0)), (8, (.int .i64 s43)), (9, (.int .i32 s51))] [some ⟨3, 40, (.vals [(e_api_Norm p_t)]), false, false⟩]) hx53 (weak_gen [0] rfl rfl (storeLe.cons rfl (objLe.mk id id (rowLe_vals (valsLe.cons (cellsLe_refl rfl) valsLe.nil))) storeLe.nil) (slotsLe.cons (And.intro rfl (AV.Le.refl _)) (slotsLe.cons (And.intro rfl (AV.Le.refl _)) (slotsLe.cons (And.intro rfl (AV.Le.refl _)) slotsLe.nil)))) ?_
                    intro k53 s51 st53 Kn53 hn53 h53 hs53
                    ((conv=>whnf);repeat((first|refine Ta ?_|refine Tz mix ?_|refine Tc ?_|refine Tb ?_|refine Td rfl ?_|refine Tl ?_|refine sE rfl ?_|refine dG (by kernel_rfl) ?_|fail);(conv=>whnf)))
                    refine grd2 rfl rfl h53 (fun h53 => ?_)
                    ((conv=>whnf);repeat((first|refine Ta ?_|refine Tz mix ?_|refine Tc ?_|refine Tb ?_|refine Td rfl ?_|refine Tl ?_|refine sE rfl ?_|refine dG (by kernel_rfl) ?_|fail);(conv=>whnf)))
                    refine br_b rfl h53 (fun c85 h53 => ?_) (fun c85 h53 => ?_)
                    · ((conv=>whnf);repeat((first|refine Ta ?_|refine Tz mix ?_|refine Tc ?_|refine Tb ?_|refine Td rfl ?_|refine Tl ?_|refine sE rfl ?_|refine dG (by kernel_rfl) ?_|fail);(conv=>whnf)))
                      refine bnd h53 (fun y54 hy54 h53 => ?_)
                      refine Or.inl ⟨_, c_eponymref04_hangul _ _ hy54, rfl, ?_⟩
                      ((conv=>whnf);repeat((first|refine Ta ?_|refine Tz mix ?_|refine Tc ?_|refine Tb ?_|refine Td rfl ?_|refine Tl ?_|refine sE rfl ?_|refine dG (by kernel_rfl) ?_|fail);(conv=>whnf)))
                      refine br_b rfl h53 (fun c86 h53 => ?_) (fun c86 h53 => ?_)
                      · have e := Option.some.inj h53; subst e
                        have e := done_out hs53; subst e
                        have e := Option.some.inj hc83; subst e
                        have e := Option.some.inj h45_; subst e
                        have e := done_out hs45; subst e
                        have e := Option.some.inj hc76; subst e
                        ((conv=>whnf);repeat((first|refine Ta ?_|refine Tz mix ?_|refine Tc ?_|refine Tb ?_|refine Td rfl ?_|refine Tl ?_|refine sE rfl ?_|refine dG (by kernel_rfl) ?_|fail);(conv=>whnf)))
                        exact And.intro (AV.Le.refl _) rfl
                      · have e := Option.some.inj h53; subst e
                        ((conv=>whnf);repeat((first|refine Ta ?_|refine Tz mix ?_|refine Tc ?_|refine Tb ?_|refine Td rfl ?_|refine Tl ?_|refine sE rfl ?_|refine dG (by kernel_rfl) ?_|fail);(conv=>whnf)))
                        exact hn53 _ (IntKind.wrap .i32 (s51 + (1 : Int))) hs53 (weak_gen [0] rfl rfl (storeLe.cons rfl (objLe.mk id id (rowLe_vals (valsLe.cons (cellsLe_refl rfl) valsLe.nil))) storeLe.nil) (slotsLe.cons (And.intro rfl (AV.Le.refl _)) (slotsLe.cons (And.intro rfl (AV.Le.refl _)) (slotsLe.cons (And.intro rfl (AV.Le.refl _)) slotsLe.nil))))
                    · have e := Option.some.inj h53; subst e
                      have e := done_out hs53; subst e
                      have e := Option.some.inj hc83; subst e
                      ((conv=>whnf);repeat((first|refine Ta ?_|refine Tz mix ?_|refine Tc ?_|refine Tb ?_|refine Td rfl ?_|refine Tl ?_|refine sE rfl ?_|refine dG (by kernel_rfl) ?_|fail);(conv=>whnf)))
                      exact hn80 _ () h45_ (weak_gen [0] rfl rfl (storeLe.cons rfl (objLe.mk id id (rowLe_vals (valsLe.cons (cellsLe_refl rfl) valsLe.nil))) storeLe.nil) (slotsLe.cons (And.intro rfl (AV.Le.refl _)) (slotsLe.cons (And.intro rfl (AV.Le.refl _)) slotsLe.nil)))
              · clear h45_ h80
                intro s46 hc87
                have e := Option.some.inj hc87; subst e
                ((conv=>whnf);repeat((first|refine Ta ?_|refine Tz mix ?_|refine Tc ?_|refine Tb ?_|refine Td rfl ?_|refine Tl ?_|refine sE rfl ?_|refine dG (by kernel_rfl) ?_|fail);(conv=>whnf)))
                exact hn45 _ (IntKind.wrap .i64 (s43 + (1 : Int))) hs45 (weak_gen [0] rfl rfl (storeLe.cons rfl (objLe.mk id id (rowLe_vals (valsLe.cons (cellsLe_refl rfl) valsLe.nil))) storeLe.nil) (slotsLe.cons (And.intro rfl (AV.Le.refl _)) (slotsLe.cons (And.intro rfl (AV.Le.refl _)) slotsLe.nil)))
            · have e := Option.some.inj h45_; subst e
              have e := done_out hs45; subst e
              ((conv=>whnf);repeat((first|refine Ta ?_|refine Tz mix ?_|refine Tc ?_|refine Tb ?_|refine Td rfl ?_|refine Tl ?_|refine sE rfl ?_|refine dG (by kernel_rfl) ?_|fail);(conv=>whnf)))
              exact hn78 _ () hc76 (weak_gen [0] rfl rfl (storeLe.cons rfl (objLe.mk id id (rowLe_vals (valsLe.cons (cellsLe_refl rfl) valsLe.nil))) storeLe.nil) (slotsLe.cons (And.intro rfl (AV.Le.refl _)) slotsLe.nil))
          · clear hc76 h78
            intro s6 hc88
            ((conv=>whnf);repeat((first|refine Ta ?_|refine Tz mix ?_|refine Tc ?_|refine Tb ?_|refine Td rfl ?_|refine Tl ?_|refine sE rfl ?_|refine dG (by kernel_rfl) ?_|fail);(conv=>whnf)))
            refine bnd hc88 (fun x89 h89 hc88 => ?_)
            refine cut_at (fun s8 : Unit => mkF 181 [(1, (.mp 0 0 0))] [some ⟨3, 40, (.vals [(e_api_Norm p_t)]), false, false⟩]) (fun s8 : Unit => m_eponymref04_Check_K9 p_t s8 = some r) ?_ ?_
            · intro Kn89 hn89
              ((conv=>whnf);repeat((first|refine Ta ?_|refine Tz mix ?_|refine Tc ?_|refine Tb ?_|refine Td rfl ?_|refine Tl ?_|refine sE rfl ?_|refine dG (by kernel_rfl) ?_|fail);(conv=>whnf)))
              refine loop_iter (fun s33 : Int => mkF 181 [(1, (.mp 0 0 0)), (10, (.int .i64 s33))] [some ⟨3, 40, (.vals [(e_api_Norm p_t)]), false, false⟩]) h89 (weak_gen [0] rfl rfl (storeLe.cons rfl (objLe.mk id id (rowLe_vals (valsLe.cons (cellsLe_refl rfl) valsLe.nil))) storeLe.nil) (slotsLe.cons (And.intro rfl (AV.Le.refl _)) (slotsLe.cons (And.intro rfl (AV.Le.refl _)) slotsLe.nil))) ?_
              intro k35 s33 st35 Kn35 hn35 h35_ hs35
              ((conv=>whnf);repeat((first|refine Ta ?_|refine Tz mix ?_|refine Tc ?_|refine Tb ?_|refine Td rfl ?_|refine Tl ?_|refine sE rfl ?_|refine dG (by kernel_rfl) ?_|fail);(conv=>whnf)))
              refine br_b rfl h35_ (fun c90 h35_ => ?_) (fun c90 h35_ => ?_)
              · ((conv=>whnf);repeat((first|refine Ta ?_|refine Tz mix ?_|refine Tc ?_|refine Tb ?_|refine Td rfl ?_|refine Tl ?_|refine sE rfl ?_|refine dG (by kernel_rfl) ?_|fail);(conv=>whnf)))
                refine grd2 rfl rfl h35_ (fun h35_ => ?_)
                ((conv=>whnf);repeat((first|refine Ta ?_|refine Tz mix ?_|refine Tc ?_|refine Tb ?_|refine Td rfl ?_|refine Tl ?_|refine sE rfl ?_|refine dG (by kernel_rfl) ?_|fail);(conv=>whnf)))
                refine bnd h35_ (fun y36 hy36 h35_ => ?_)
                refine Or.inl ⟨_, c_eponymref01_Right _ _ hy36, rfl, ?_⟩
                ((conv=>whnf);repeat((first|refine Ta ?_|refine Tz mix ?_|refine Tc ?_|refine Tb ?_|refine Td rfl ?_|refine Tl ?_|refine sE rfl ?_|refine dG (by kernel_rfl) ?_|fail);(conv=>whnf)))
                refine br_b rfl h35_ (fun c91 h35_ => ?_) (fun c91 h35_ => ?_)
                · have e := Option.some.inj h35_; subst e
                  have e := done_out hs35; subst e
                  have e := Option.some.inj hc88; subst e
                  ((conv=>whnf);repeat((first|refine Ta ?_|refine Tz mix ?_|refine Tc ?_|refine Tb ?_|refine Td rfl ?_|refine Tl ?_|refine sE rfl ?_|refine dG (by kernel_rfl) ?_|fail);(conv=>whnf)))
                  exact And.intro (AV.Le.refl _) rfl
                · ((conv=>whnf);repeat((first|refine Ta ?_|refine Tz mix ?_|refine Tc ?_|refine Tb ?_|refine Td rfl ?_|refine Tl ?_|refine sE rfl ?_|refine dG (by kernel_rfl) ?_|fail);(conv=>whnf)))
                  refine bnd h35_ (fun x92 h92 h35_ => ?_)
                  refine cut_at (fun s37 : Bool => mkF 181 [(1, (.mp 0 0 0)), (10, (.int .i64 s33)), (120, (.bool s37))] [some ⟨3, 40, (.vals [(e_api_Norm p_t)]), false, false⟩]) (fun s37 : Bool => m_eponymref04_Check_K38 s33 s37 = some st35) ?_ ?_
                  · intro Kn92 hn92
                    ((conv=>whnf);repeat((first|refine Ta ?_|refine Tz mix ?_|refine Tc ?_|refine Tb ?_|refine Td rfl ?_|refine Tl ?_|refine sE rfl ?_|refine dG (by kernel_rfl) ?_|fail);(conv=>whnf)))
                    refine br_b rfl h92 (fun c93 h92 => ?_) (fun c93 h92 => ?_)
                    · ((conv=>whnf);repeat((first|refine Ta ?_|refine Tz mix ?_|refine Tc ?_|refine Tb ?_|refine Td rfl ?_|refine Tl ?_|refine sE rfl ?_|refine dG (by kernel_rfl) ?_|fail);(conv=>whnf)))
                      refine grd2 rfl rfl h92 (fun h92 => ?_)
                      ((conv=>whnf);repeat((first|refine Ta ?_|refine Tz mix ?_|refine Tc ?_|refine Tb ?_|refine Td rfl ?_|refine Tl ?_|refine sE rfl ?_|refine dG (by kernel_rfl) ?_|fail);(conv=>whnf)))
                      refine grd2 rfl rfl h92 (fun h92 => ?_)
                      have e := Option.some.inj h92; subst e
                      ((conv=>whnf);repeat((first|refine Ta ?_|refine Tz mix ?_|refine Tc ?_|refine Tb ?_|refine Td rfl ?_|refine Tl ?_|refine sE rfl ?_|refine dG (by kernel_rfl) ?_|fail);(conv=>whnf)))
                      exact hn92 _ (decide ((p_t.f_Excluded.getD (s33.toNat) 0) ≤ (p_t.f_Excluded.getD ((IntKind.wrap .i64 (s33 - (1 : Int))).toNat) 0))) h35_ (weak_gen [0] rfl rfl (storeLe.cons rfl (objLe.mk id id (rowLe_vals (valsLe.cons (cellsLe_refl rfl) valsLe.nil))) storeLe.nil) (slotsLe.cons (And.intro rfl (AV.Le.refl _)) (slotsLe.cons (And.intro rfl (AV.Le.refl _)) (slotsLe.cons (And.intro rfl (AV.Le.refl _)) slotsLe.nil))))
                    · have e := Option.some.inj h92; subst e
                      ((conv=>whnf);repeat((first|refine Ta ?_|refine Tz mix ?_|refine Tc ?_|refine Tb ?_|refine Td rfl ?_|refine Tl ?_|refine sE rfl ?_|refine dG (by kernel_rfl) ?_|fail);(conv=>whnf)))
                      exact hn92 _ false h35_ (weak_gen [0] rfl rfl (storeLe.cons rfl (objLe.mk id id (rowLe_vals (valsLe.cons (cellsLe_refl rfl) valsLe.nil))) storeLe.nil) (slotsLe.cons (And.intro rfl (AV.Le.refl _)) (slotsLe.cons (And.intro rfl (AV.Le.refl _)) (slotsLe.cons (And.intro rfl (AV.Le.refl _)) slotsLe.nil))))
                  · clear h35_ h92
                    intro s37 hc94
                    ((conv=>whnf);repeat((first|refine Ta ?_|refine Tz mix ?_|refine Tc ?_|refine Tb ?_|refine Td rfl ?_|refine Tl ?_|refine sE rfl ?_|refine dG (by kernel_rfl) ?_|fail);(conv=>whnf)))
                    refine br_b rfl hc94 (fun c95 hc94 => ?_) (fun c95 hc94 => ?_)
                    · have e := Option.some.inj hc94; subst e
                      have e := done_out hs35; subst e
                      have e := Option.some.inj hc88; subst e
                      ((conv=>whnf);repeat((first|refine Ta ?_|refine Tz mix ?_|refine Tc ?_|refine Tb ?_|refine Td rfl ?_|refine Tl ?_|refine sE rfl ?_|refine dG (by kernel_rfl) ?_|fail);(conv=>whnf)))
                      exact And.intro (AV.Le.refl _) rfl
                    · have e := Option.some.inj hc94; subst e
                      ((conv=>whnf);repeat((first|refine Ta ?_|refine Tz mix ?_|refine Tc ?_|refine Tb ?_|refine Td rfl ?_|refine Tl ?_|refine sE rfl ?_|refine dG (by kernel_rfl) ?_|fail);(conv=>whnf)))
                      exact hn35 _ (IntKind.wrap .i64 (s33 + (1 : Int))) hs35 (weak_gen [0] rfl rfl (storeLe.cons rfl (objLe.mk id id (rowLe_vals (valsLe.cons (cellsLe_refl rfl) valsLe.nil))) storeLe.nil) (slotsLe.cons (And.intro rfl (AV.Le.refl _)) (slotsLe.cons (And.intro rfl (AV.Le.refl _)) slotsLe.nil)))
              · have e := Option.some.inj h35_; subst e
                have e := done_out hs35; subst e
                ((conv=>whnf);repeat((first|refine Ta ?_|refine Tz mix ?_|refine Tc ?_|refine Tb ?_|refine Td rfl ?_|refine Tl ?_|refine sE rfl ?_|refine dG (by kernel_rfl) ?_|fail);(conv=>whnf)))
                exact hn89 _ () hc88 (weak_gen [0] rfl rfl (storeLe.cons rfl (objLe.mk id id (rowLe_vals (valsLe.cons (cellsLe_refl rfl) valsLe.nil))) storeLe.nil) (slotsLe.cons (And.intro rfl (AV.Le.refl _)) slotsLe.nil))
            · clear hc88 h89
              intro s8 hc96
              ((conv=>whnf);repeat((first|refine Ta ?_|refine Tz mix ?_|refine Tc ?_|refine Tb ?_|refine Td rfl ?_|refine Tl ?_|refine sE rfl ?_|refine dG (by kernel_rfl) ?_|fail);(conv=>whnf)))
              refine bnd hc96 (fun x97 h97 hc96 => ?_)
              refine cut_at (fun s10 : Unit => mkF 181 [] []) (fun s10 : Unit => some ((0 : Int), (0 : Int)) = some r) ?_ ?_
              · intro Kn97 hn97
                ((conv=>whnf);repeat((first|refine Ta ?_|refine Tz mix ?_|refine Tc ?_|refine Tb ?_|refine Td rfl ?_|refine Tl ?_|refine sE rfl ?_|refine dG (by kernel_rfl) ?_|fail);(conv=>whnf)))
                refine loop_iter (fun s13 : Int => mkF 181 [(1, (.mp 0 0 0)), (11, (.int .i64 s13))] [some ⟨3, 40, (.vals [(e_api_Norm p_t)]), false, false⟩]) h97 (weak_gen [0] rfl rfl (storeLe.cons rfl (objLe.mk id id (rowLe_vals (valsLe.cons (cellsLe_refl rfl) valsLe.nil))) storeLe.nil) (slotsLe.cons (And.intro rfl (AV.Le.refl _)) (slotsLe.cons (And.intro rfl (AV.Le.refl _)) slotsLe.nil))) ?_
                intro k15 s13 st15 Kn15 hn15 h15_ hs15
                ((conv=>whnf);repeat((first|refine Ta ?_|refine Tz mix ?_|refine Tc ?_|refine Tb ?_|refine Td rfl ?_|refine Tl ?_|refine sE rfl ?_|refine dG (by kernel_rfl) ?_|fail);(conv=>whnf)))
                refine br_b rfl h15_ (fun c98 h15_ => ?_) (fun c98 h15_ => ?_)
                · ((conv=>whnf);repeat((first|refine Ta ?_|refine Tz mix ?_|refine Tc ?_|refine Tb ?_|refine Td rfl ?_|refine Tl ?_|refine sE rfl ?_|refine dG (by kernel_rfl) ?_|fail);(conv=>whnf)))
                  refine bnd h15_ (fun x99 h99 h15_ => ?_)
                  refine cut_at (fun s16 : Unit => mkF 181 [(1, (.mp 0 0 0)), (11, (.int .i64 s13))] [some ⟨3, 40, (.vals [(e_api_Norm p_t)]), false, false⟩]) (fun s16 : Unit => some (.next (IntKind.wrap .i64 (s13 + (1 : Int)))) = some st15) ?_ ?_
                  · intro Kn99 hn99
                    ((conv=>whnf);repeat((first|refine Ta ?_|refine Tz mix ?_|refine Tc ?_|refine Tb ?_|refine Td rfl ?_|refine Tl ?_|refine sE rfl ?_|refine dG (by kernel_rfl) ?_|fail);(conv=>whnf)))
                    refine loop_iter (fun s19 : Int => mkF 181 [(1, (.mp 0 0 0)), (11, (.int .i64 s13)), (12, (.int .i64 s19))] [some ⟨3, 40, (.vals [(e_api_Norm p_t)]), false, false⟩]) h99 (weak_gen [0] rfl rfl (storeLe.cons rfl (objLe.mk id id (rowLe_vals (valsLe.cons (cellsLe_refl rfl) valsLe.nil))) storeLe.nil) (slotsLe.cons (And.intro rfl (AV.Le.refl _)) (slotsLe.cons (And.intro rfl (AV.Le.refl _)) (slotsLe.cons (And.intro rfl (AV.Le.refl _)) slotsLe.nil)))) ?_
                    intro k21 s19 st21 Kn21 hn21 h21_ hs21
                    ((conv=>whnf);repeat((first|refine Ta ?_|refine Tz mix ?_|refine Tc ?_|refine Tb ?_|refine Td rfl ?_|refine Tl ?_|refine sE rfl ?_|refine dG (by kernel_rfl) ?_|fail);(conv=>whnf)))
                    refine br_b rfl h21_ (fun c100 h21_ => ?_) (fun c100 h21_ => ?_)
                    · ((conv=>whnf);repeat((first|refine Ta ?_|refine Tz mix ?_|refine Tc ?_|refine Tb ?_|refine Td rfl ?_|refine Tl ?_|refine sE rfl ?_|refine dG (by kernel_rfl) ?_|fail);(conv=>whnf)))
                      refine bnd h21_ (fun x101 h101 h21_ => ?_)
                      refine cut_at (fun s22 : Bool => mkF 181 [(1, (.mp 0 0 0)), (11, (.int .i64 s13)), (12, (.int .i64 s19)), (179, (.bool s22))] [some ⟨3, 40, (.vals [(e_api_Norm p_t)]), false, false⟩]) (fun s22 : Bool => m_eponymref04_Check_K23 s13 s19 s22 = some st21) ?_ ?_
                      · intro Kn101 hn101
                        ((conv=>whnf);repeat((first|refine Ta ?_|refine Tz mix ?_|refine Tc ?_|refine Tb ?_|refine Td rfl ?_|refine Tl ?_|refine sE rfl ?_|refine dG (by kernel_rfl) ?_|fail);(conv=>whnf)))
                        refine bnd h101 (fun y24 hy24 h101 => ?_)
                        refine Or.inl ⟨_, c_eponymref04_Composes _ _ _ hy24, rfl, ?_⟩
                        ((conv=>whnf);repeat((first|refine Ta ?_|refine Tz mix ?_|refine Tc ?_|refine Tb ?_|refine Td rfl ?_|refine Tl ?_|refine sE rfl ?_|refine dG (by kernel_rfl) ?_|fail);(conv=>whnf)))
                        refine br_b rfl h101 (fun c102 h101 => ?_) (fun c102 h101 => ?_)
                        · ((conv=>whnf);repeat((first|refine Ta ?_|refine Tz mix ?_|refine Tc ?_|refine Tb ?_|refine Td rfl ?_|refine Tl ?_|refine sE rfl ?_|refine dG (by kernel_rfl) ?_|fail);(conv=>whnf)))
                          refine bnd h101 (fun y25 hy25 h101 => ?_)
                          refine Or.inl ⟨_, c_eponymref04_Composes _ _ _ hy25, rfl, ?_⟩
                          ((conv=>whnf);repeat((first|refine Ta ?_|refine Tz mix ?_|refine Tc ?_|refine Tb ?_|refine Td rfl ?_|refine Tl ?_|refine sE rfl ?_|refine dG (by kernel_rfl) ?_|fail);(conv=>whnf)))
                          refine br_b rfl h101 (fun c103 h101 => ?_) (fun c103 h101 => ?_)
                          · ((conv=>whnf);repeat((first|refine Ta ?_|refine Tz mix ?_|refine Tc ?_|refine Tb ?_|refine Td rfl ?_|refine Tl ?_|refine sE rfl ?_|refine dG (by kernel_rfl) ?_|fail);(conv=>whnf)))
                            refine grd2 rfl rfl h101 (fun h101 => ?_)
                            ((conv=>whnf);repeat((first|refine Ta ?_|refine Tz mix ?_|refine Tc ?_|refine Tb ?_|refine Td rfl ?_|refine Tl ?_|refine sE rfl ?_|refine dG (by kernel_rfl) ?_|fail);(conv=>whnf)))
                            refine grd2 rfl rfl h101 (fun h101 => ?_)
                            ((conv=>whnf);repeat((first|refine Ta ?_|refine Tz mix ?_|refine Tc ?_|refine Tb ?_|refine Td rfl ?_|refine Tl ?_|refine sE rfl ?_|refine dG (by kernel_rfl) ?_|fail);(conv=>whnf)))
                            refine grd2 rfl rfl h101 (fun h101 => ?_)
                            ((conv=>whnf);repeat((first|refine Ta ?_|refine Tz mix ?_|refine Tc ?_|refine Tb ?_|refine Td rfl ?_|refine Tl ?_|refine sE rfl ?_|refine dG (by kernel_rfl) ?_|fail);(conv=>whnf)))
                            refine grd2 rfl rfl h101 (fun h101 => ?_)
                            ((conv=>whnf);repeat((first|refine Ta ?_|refine Tz mix ?_|refine Tc ?_|refine Tb ?_|refine Td rfl ?_|refine Tl ?_|refine sE rfl ?_|refine dG (by kernel_rfl) ?_|fail);(conv=>whnf)))
                            refine br_b rfl h101 (fun c104 h101 => ?_) (fun c104 h101 => ?_)
                            · ((conv=>whnf);repeat((first|refine Ta ?_|refine Tz mix ?_|refine Tc ?_|refine Tb ?_|refine Td rfl ?_|refine Tl ?_|refine sE rfl ?_|refine dG (by kernel_rfl) ?_|fail);(conv=>whnf)))
                              refine grd2 rfl rfl h101 (fun h101 => ?_)
                              ((conv=>whnf);repeat((first|refine Ta ?_|refine Tz mix ?_|refine Tc ?_|refine Tb ?_|refine Td rfl ?_|refine Tl ?_|refine sE rfl ?_|refine dG (by kernel_rfl) ?_|fail);(conv=>whnf)))
                              refine grd2 rfl rfl h101 (fun h101 => ?_)
                              ((conv=>whnf);repeat((first|refine Ta ?_|refine Tz mix ?_|refine Tc ?_|refine Tb ?_|refine Td rfl ?_|refine Tl ?_|refine sE rfl ?_|refine dG (by kernel_rfl) ?_|fail);(conv=>whnf)))
                              refine grd2 rfl rfl h101 (fun h101 => ?_)
                              ((conv=>whnf);repeat((first|refine Ta ?_|refine Tz mix ?_|refine Tc ?_|refine Tb ?_|refine Td rfl ?_|refine Tl ?_|refine sE rfl ?_|refine dG (by kernel_rfl) ?_|fail);(conv=>whnf)))
                              refine grd2 rfl rfl h101 (fun h101 => ?_)
                              have e := Option.some.inj h101; subst e
                              ((conv=>whnf);repeat((first|refine Ta ?_|refine Tz mix ?_|refine Tc ?_|refine Tb ?_|refine Td rfl ?_|refine Tl ?_|refine sE rfl ?_|refine dG (by kernel_rfl) ?_|fail);(conv=>whnf)))
                              exact hn101 _ (((p_t.f_Rows.getD (s13.toNat) d_api_Row).f_To.getD 1 0) == ((p_t.f_Rows.getD (s19.toNat) d_api_Row).f_To.getD 1 0)) h21_ (weak_gen [0] rfl rfl (storeLe.cons rfl (objLe.mk id id (rowLe_vals (valsLe.cons (cellsLe_refl rfl) valsLe.nil))) storeLe.nil) (slotsLe.cons (And.intro rfl (AV.Le.refl _)) (slotsLe.cons (And.intro rfl (AV.Le.refl _)) (slotsLe.cons (And.intro rfl (AV.Le.refl _)) (slotsLe.cons (And.intro rfl (AV.Le.refl _)) slotsLe.nil)))))
                            · have e := Option.some.inj h101; subst e
                              ((conv=>whnf);repeat((first|refine Ta ?_|refine Tz mix ?_|refine Tc ?_|refine Tb ?_|refine Td rfl ?_|refine Tl ?_|refine sE rfl ?_|refine dG (by kernel_rfl) ?_|fail);(conv=>whnf)))
                              exact hn101 _ false h21_ (weak_gen [0] rfl rfl (storeLe.cons rfl (objLe.mk id id (rowLe_vals (valsLe.cons (cellsLe_refl rfl) valsLe.nil))) storeLe.nil) (slotsLe.cons (And.intro rfl (AV.Le.refl _)) (slotsLe.cons (And.intro rfl (AV.Le.refl _)) (slotsLe.cons (And.intro rfl (AV.Le.refl _)) (slotsLe.cons (And.intro rfl (AV.Le.refl _)) slotsLe.nil)))))
                          · have e := Option.some.inj h101; subst e
                            ((conv=>whnf);repeat((first|refine Ta ?_|refine Tz mix ?_|refine Tc ?_|refine Tb ?_|refine Td rfl ?_|refine Tl ?_|refine sE rfl ?_|refine dG (by kernel_rfl) ?_|fail);(conv=>whnf)))
                            exact hn101 _ false h21_ (weak_gen [0] rfl rfl (storeLe.cons rfl (objLe.mk id id (rowLe_vals (valsLe.cons (cellsLe_refl rfl) valsLe.nil))) storeLe.nil) (slotsLe.cons (And.intro rfl (AV.Le.refl _)) (slotsLe.cons (And.intro rfl (AV.Le.refl _)) (slotsLe.cons (And.intro rfl (AV.Le.refl _)) (slotsLe.cons (And.intro rfl (AV.Le.refl _)) slotsLe.nil)))))
                        · have e := Option.some.inj h101; subst e
                          ((conv=>whnf);repeat((first|refine Ta ?_|refine Tz mix ?_|refine Tc ?_|refine Tb ?_|refine Td rfl ?_|refine Tl ?_|refine sE rfl ?_|refine dG (by kernel_rfl) ?_|fail);(conv=>whnf)))
                          exact hn101 _ false h21_ (weak_gen [0] rfl rfl (storeLe.cons rfl (objLe.mk id id (rowLe_vals (valsLe.cons (cellsLe_refl rfl) valsLe.nil))) storeLe.nil) (slotsLe.cons (And.intro rfl (AV.Le.refl _)) (slotsLe.cons (And.intro rfl (AV.Le.refl _)) (slotsLe.cons (And.intro rfl (AV.Le.refl _)) (slotsLe.cons (And.intro rfl (AV.Le.refl _)) slotsLe.nil)))))
                      · clear h21_ h101
                        intro s22 hc105
                        ((conv=>whnf);repeat((first|refine Ta ?_|refine Tz mix ?_|refine Tc ?_|refine Tb ?_|refine Td rfl ?_|refine Tl ?_|refine sE rfl ?_|refine dG (by kernel_rfl) ?_|fail);(conv=>whnf)))
                        refine br_b rfl hc105 (fun c106 hc105 => ?_) (fun c106 hc105 => ?_)
                        · have e := Option.some.inj hc105; subst e
                          have e := done_out hs21; subst e
                          have e := Option.some.inj h15_; subst e
                          have e := done_out hs15; subst e
                          have e := Option.some.inj hc96; subst e
                          ((conv=>whnf);repeat((first|refine Ta ?_|refine Tz mix ?_|refine Tc ?_|refine Tb ?_|refine Td rfl ?_|refine Tl ?_|refine sE rfl ?_|refine dG (by kernel_rfl) ?_|fail);(conv=>whnf)))
                          exact And.intro (AV.Le.refl _) rfl
                        · have e := Option.some.inj hc105; subst e
                          ((conv=>whnf);repeat((first|refine Ta ?_|refine Tz mix ?_|refine Tc ?_|refine Tb ?_|refine Td rfl ?_|refine Tl ?_|refine sE rfl ?_|refine dG (by kernel_rfl) ?_|fail);(conv=>whnf)))
                          exact hn21 _ (IntKind.wrap .i64 (s19 + (1 : Int))) hs21 (weak_gen [0] rfl rfl (storeLe.cons rfl (objLe.mk id id (rowLe_vals (valsLe.cons (cellsLe_refl rfl) valsLe.nil))) storeLe.nil) (slotsLe.cons (And.intro rfl (AV.Le.refl _)) (slotsLe.cons (And.intro rfl (AV.Le.refl _)) (slotsLe.cons (And.intro rfl (AV.Le.refl _)) slotsLe.nil))))
                    · have e := Option.some.inj h21_; subst e
                      have e := done_out hs21; subst e
                      ((conv=>whnf);repeat((first|refine Ta ?_|refine Tz mix ?_|refine Tc ?_|refine Tb ?_|refine Td rfl ?_|refine Tl ?_|refine sE rfl ?_|refine dG (by kernel_rfl) ?_|fail);(conv=>whnf)))
                      exact hn99 _ () h15_ (weak_gen [0] rfl rfl (storeLe.cons rfl (objLe.mk id id (rowLe_vals (valsLe.cons (cellsLe_refl rfl) valsLe.nil))) storeLe.nil) (slotsLe.cons (And.intro rfl (AV.Le.refl _)) (slotsLe.cons (And.intro rfl (AV.Le.refl _)) slotsLe.nil)))
                  · clear h15_ h99
                    intro s16 hc107
                    have e := Option.some.inj hc107; subst e
                    ((conv=>whnf);repeat((first|refine Ta ?_|refine Tz mix ?_|refine Tc ?_|refine Tb ?_|refine Td rfl ?_|refine Tl ?_|refine sE rfl ?_|refine dG (by kernel_rfl) ?_|fail);(conv=>whnf)))
                    exact hn15 _ (IntKind.wrap .i64 (s13 + (1 : Int))) hs15 (weak_gen [0] rfl rfl (storeLe.cons rfl (objLe.mk id id (rowLe_vals (valsLe.cons (cellsLe_refl rfl) valsLe.nil))) storeLe.nil) (slotsLe.cons (And.intro rfl (AV.Le.refl _)) (slotsLe.cons (And.intro rfl (AV.Le.refl _)) slotsLe.nil)))
                · have e := Option.some.inj h15_; subst e
                  have e := done_out hs15; subst e
                  ((conv=>whnf);repeat((first|refine Ta ?_|refine Tz mix ?_|refine Tc ?_|refine Tb ?_|refine Td rfl ?_|refine Tl ?_|refine sE rfl ?_|refine dG (by kernel_rfl) ?_|fail);(conv=>whnf)))
                  exact hn97 _ () hc96 (weak_gen [] rfl rfl storeLe.nil slotsLe.nil)
              · clear hc96 h97
                intro s10 hc108
                have e := Option.some.inj hc108; subst e
                ((conv=>whnf);repeat((first|refine Ta ?_|refine Tz mix ?_|refine Tc ?_|refine Tb ?_|refine Td rfl ?_|refine Tl ?_|refine sE rfl ?_|refine dG (by kernel_rfl) ?_|fail);(conv=>whnf)))
                exact And.intro (AV.Le.refl _) rfl
end Go.Proofs.YtjhgaacecfmadaaDoor
