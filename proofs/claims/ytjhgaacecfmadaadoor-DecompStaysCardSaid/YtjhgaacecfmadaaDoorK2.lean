/- Contracts of functions, walked by their models; printed by a program of ours. No condition. -/
import Derived.Test.YtjhgaacecfmadaaDoorK1
import Derived.Test.YtjhgaacecfmadaaDoorTwice
import Derived.Test.YtjhgaacecfmadaaDoorProg
import Derived.KernelRfl
namespace Go.Proofs.YtjhgaacecfmadaaDoor
open Go Go.SE
set_option linter.unusedVariables false
set_option linter.unusedSimpArgs false
set_option maxRecDepth 10000
set_option maxHeartbeats 2000000
attribute [local irreducible] Contract iter
theorem c_decomp_Check (p_t : T_api_Norm) (r : Er) (h : m_decomp_Check p_t = some r) : Contract pl 66 [(e_api_Norm p_t)] [] (AV.err r) [] := by
  refine contract_of (.t false .z (.t false (.t true .z .z) (.t false .z (.t false .z (.t true (.t false .z (.t false (.t false (.t false .z (.t false .z (.t false (.t false (.t false .z (.t false .z (.t true .z .z))) .z) .z))) .z) .z)) (.t false .z (.t false .z (.t true (.t false .z (.t false (.t false (.t false .z (.t false .z (.t false (.t false (.t false .z (.t true .z .z)) .z) .z))) .z) .z)) (.t true (.t false .z (.t false (.t false (.t false .z (.t false .z (.t false (.t false (.t false .z (.t false (.t false .z (.t false .z (.t true .z .z))) .z)) .z) .z))) .z) .z)) .z))))))))) Tryd.func66 rfl (by kernel_rfl) ?_
  ((conv=>whnf);repeat((first|refine Ta ?_|refine Tz mix ?_|refine Tc ?_|refine Tb ?_|refine Td rfl ?_|refine Tl ?_|refine sE rfl ?_|refine dG (by kernel_rfl) ?_|fail);(conv=>whnf)))
  refine bnd h (fun x51 h51 h => ?_)
  refine cut_at (fun s1 : Bool => mkF 136 [(1, (.mp 0 0 0)), (21, (.bool s1))] [some ⟨3, 40, (.vals [(e_api_Norm p_t)]), false, false⟩]) (fun s1 : Bool => m_decomp_Check_K2 p_t s1 = some r) ?_ ?_
  · intro Kn51 hn51
    ((conv=>whnf);repeat((first|refine Ta ?_|refine Tz mix ?_|refine Tc ?_|refine Tb ?_|refine Td rfl ?_|refine Tl ?_|refine sE rfl ?_|refine dG (by kernel_rfl) ?_|fail);(conv=>whnf)))
    refine br_b rfl h51 (fun c52 h51 => ?_) (fun c52 h51 => ?_)
    · have e := Option.some.inj h51; subst e
      ((conv=>whnf);repeat((first|refine Ta ?_|refine Tz mix ?_|refine Tc ?_|refine Tb ?_|refine Td rfl ?_|refine Tl ?_|refine sE rfl ?_|refine dG (by kernel_rfl) ?_|fail);(conv=>whnf)))
      exact hn51 _ true h (weak_gen [0] rfl rfl (storeLe.cons rfl (objLe.mk id id (rowLe_vals (valsLe.cons (cellsLe_refl rfl) valsLe.nil))) storeLe.nil) (slotsLe.cons (And.intro rfl (AV.Le.refl _)) (slotsLe.cons (And.intro rfl (AV.Le.refl _)) slotsLe.nil)))
    · have e := Option.some.inj h51; subst e
      ((conv=>whnf);repeat((first|refine Ta ?_|refine Tz mix ?_|refine Tc ?_|refine Tb ?_|refine Td rfl ?_|refine Tl ?_|refine sE rfl ?_|refine dG (by kernel_rfl) ?_|fail);(conv=>whnf)))
      exact hn51 _ (decide (((p_t.f_Excluded.length : Nat) : Int) > (2000 : Int))) h (weak_gen [0] rfl rfl (storeLe.cons rfl (objLe.mk id id (rowLe_vals (valsLe.cons (cellsLe_refl rfl) valsLe.nil))) storeLe.nil) (slotsLe.cons (And.intro rfl (AV.Le.refl _)) (slotsLe.cons (And.intro rfl (AV.Le.refl _)) slotsLe.nil)))
  · clear h h51
    intro s1 hc53
    ((conv=>whnf);repeat((first|refine Ta ?_|refine Tz mix ?_|refine Tc ?_|refine Tb ?_|refine Td rfl ?_|refine Tl ?_|refine sE rfl ?_|refine dG (by kernel_rfl) ?_|fail);(conv=>whnf)))
    refine br_b rfl hc53 (fun c54 hc53 => ?_) (fun c54 hc53 => ?_)
    · ((conv=>whnf);repeat((first|refine Ta ?_|refine Tz mix ?_|refine Tc ?_|refine Tb ?_|refine Td rfl ?_|refine Tl ?_|refine sE rfl ?_|refine dG (by kernel_rfl) ?_|fail);(conv=>whnf)))
      refine bnd hc53 (fun y3 hy3 hc53 => ?_)
      refine Or.inl ⟨_, c_decomp_fault _ _ _ hy3, rfl, ?_⟩
      have e := Option.some.inj hc53; subst e
      ((conv=>whnf);repeat((first|refine Ta ?_|refine Tz mix ?_|refine Tc ?_|refine Tb ?_|refine Td rfl ?_|refine Tl ?_|refine sE rfl ?_|refine dG (by kernel_rfl) ?_|fail);(conv=>whnf)))
      exact And.intro (AV.Le.refl _) rfl
    · ((conv=>whnf);repeat((first|refine Ta ?_|refine Tz mix ?_|refine Tc ?_|refine Tb ?_|refine Td rfl ?_|refine Tl ?_|refine sE rfl ?_|refine dG (by kernel_rfl) ?_|fail);(conv=>whnf)))
      refine bnd hc53 (fun y4 hy4 hc53 => ?_)
      refine Or.inl ⟨_, c_decomp_rises _ _ hy4, rfl, ?_⟩
      ((conv=>whnf);repeat((first|refine Ta ?_|refine Tz mix ?_|refine Tc ?_|refine Tb ?_|refine Td rfl ?_|refine Tl ?_|refine sE rfl ?_|refine dG (by kernel_rfl) ?_|fail);(conv=>whnf)))
      have ghc53 := gOf hc53
      refine grd3 rfl rfl rfl hc53 (fun hc53 => ?_)
      ((conv=>whnf);repeat((first|refine Ta ?_|refine Tz mix ?_|refine Tc ?_|refine Tb ?_|refine Td rfl ?_|refine Tl ?_|refine sE rfl ?_|refine dG (by kernel_rfl) ?_|fail);(conv=>whnf)))
      refine bnd hc53 (fun x55 h55 hc53 => ?_)
      refine cut_at (fun s5 : Unit => mkF 136 [(1, (.mp 0 0 0)), (3, (.int .i64 y4))] [some ⟨3, 40, (.vals [(e_api_Norm p_t)]), false, false⟩]) (fun s5 : Unit => m_decomp_Check_K6 p_t y4 s5 = some r) ?_ ?_
      · intro Kn55 hn55
        ((conv=>whnf);repeat((first|refine Ta ?_|refine Tz mix ?_|refine Tc ?_|refine Tb ?_|refine Td rfl ?_|refine Tl ?_|refine sE rfl ?_|refine dG (by kernel_rfl) ?_|fail);(conv=>whnf)))
        refine loop_iter (fun s39 : Int => mkF 136 [(1, (.mp 0 0 0)), (3, (.int .i64 y4)), (4, (.mp 1 0 0)), (31, (.int .i64 y4)), (32, (.int .i64 s39))] [some ⟨3, 40, (.vals [(e_api_Norm p_t)]), false, false⟩, some ⟨3, 40, (.vals [(.agg [(.sl none ((y4.toNat) - 0) fun j => (e_api_Row (p_t.f_Rows.getD (0 + j) d_api_Row))), (.sl (some true) 0 fun _ => .unk), (.sl (some true) 0 fun _ => .unk)])]), false, false⟩]) h55 (weak_gen [0, 1] rfl rfl (storeLe.cons rfl (objLe.mk id id (rowLe_vals (valsLe.cons (cellsLe_refl rfl) valsLe.nil))) (storeLe.cons rfl (objLe.mk id id (rowLe_vals (valsLe.cons (cellsLe_refl rfl) valsLe.nil))) storeLe.nil)) (slotsLe.cons (And.intro rfl (AV.Le.refl _)) (slotsLe.cons (And.intro rfl (AV.Le.refl _)) (slotsLe.cons (And.intro rfl (AV.Le.refl _)) (slotsLe.cons (And.intro rfl (AV.Le.refl _)) (slotsLe.cons (And.intro rfl (AV.Le.refl _)) slotsLe.nil)))))) ?_
        intro k41 s39 st41 Kn41 hn41 h41_ hs41
        ((conv=>whnf);repeat((first|refine Ta ?_|refine Tz mix ?_|refine Tc ?_|refine Tb ?_|refine Td rfl ?_|refine Tl ?_|refine sE rfl ?_|refine dG (by kernel_rfl) ?_|fail);(conv=>whnf)))
        refine br_b rfl h41_ (fun c56 h41_ => ?_) (fun c56 h41_ => ?_)
        · ((conv=>whnf);repeat((first|refine Ta ?_|refine Tz mix ?_|refine Tc ?_|refine Tb ?_|refine Td rfl ?_|refine Tl ?_|refine sE rfl ?_|refine dG (by kernel_rfl) ?_|fail);(conv=>whnf)))
          refine grd2 rfl rfl h41_ (fun h41_ => ?_)
          ((conv=>whnf);repeat((first|refine Ta ?_|refine Tz mix ?_|refine Tc ?_|refine Tb ?_|refine Td rfl ?_|refine Tl ?_|refine sE rfl ?_|refine dG (by kernel_rfl) ?_|fail);(conv=>whnf)))
          refine bnd h41_ (fun x57 h57 h41_ => ?_)
          refine cut_at (fun s42 : Bool => mkF 136 [(1, (.mp 0 0 0)), (3, (.int .i64 y4)), (4, (.mp 1 0 0)), (5, (.int .i64 s39)), (31, (.int .i64 y4)), (32, (.int .i64 s39)), (57, (.bool s42))] [some ⟨3, 40, (.vals [(e_api_Norm p_t)]), false, false⟩, some ⟨3, 40, (.vals [(.agg [(.sl none ((y4.toNat) - 0) fun j => (e_api_Row (p_t.f_Rows.getD (0 + j) d_api_Row))), (.sl (some true) 0 fun _ => .unk), (.sl (some true) 0 fun _ => .unk)])]), false, false⟩]) (fun s42 : Bool => m_decomp_Check_K43 s39 s42 = some st41) ?_ ?_
          · intro Kn57 hn57
            ((conv=>whnf);repeat((first|refine Ta ?_|refine Tz mix ?_|refine Tc ?_|refine Tb ?_|refine Td rfl ?_|refine Tl ?_|refine sE rfl ?_|refine dG (by kernel_rfl) ?_|fail);(conv=>whnf)))
            refine br_b rfl h57 (fun c58 h57 => ?_) (fun c58 h57 => ?_)
            · ((conv=>whnf);repeat((first|refine Ta ?_|refine Tz mix ?_|refine Tc ?_|refine Tb ?_|refine Td rfl ?_|refine Tl ?_|refine sE rfl ?_|refine dG (by kernel_rfl) ?_|fail);(conv=>whnf)))
              refine grd2 rfl rfl h57 (fun h57 => ?_)
              ((conv=>whnf);repeat((first|refine Ta ?_|refine Tz mix ?_|refine Tc ?_|refine Tb ?_|refine Td rfl ?_|refine Tl ?_|refine sE rfl ?_|refine dG (by kernel_rfl) ?_|fail);(conv=>whnf)))
              refine bnd h57 (fun y45 hy45 h57 => ?_)
              refine Or.inl ⟨_, c_decomp_has _ _ _ hy45, rfl, ?_⟩
              ((conv=>whnf);repeat((first|refine Ta ?_|refine Tz mix ?_|refine Tc ?_|refine Tb ?_|refine Td rfl ?_|refine Tl ?_|refine sE rfl ?_|refine dG (by kernel_rfl) ?_|fail);(conv=>whnf)))
              refine br_b rfl h57 (fun c59 h57 => ?_) (fun c59 h57 => ?_)
              · have e := Option.some.inj h57; subst e
                ((conv=>whnf);repeat((first|refine Ta ?_|refine Tz mix ?_|refine Tc ?_|refine Tb ?_|refine Td rfl ?_|refine Tl ?_|refine sE rfl ?_|refine dG (by kernel_rfl) ?_|fail);(conv=>whnf)))
                exact hn57 _ true h41_ (weak_gen [0, 1] rfl rfl (storeLe.cons rfl (objLe.mk id id (rowLe_vals (valsLe.cons (cellsLe_refl rfl) valsLe.nil))) (storeLe.cons rfl (objLe.mk id id (rowLe_vals (valsLe.cons (cellsLe_refl rfl) valsLe.nil))) storeLe.nil)) (slotsLe.cons (And.intro rfl (AV.Le.refl _)) (slotsLe.cons (And.intro rfl (AV.Le.refl _)) (slotsLe.cons (And.intro rfl (AV.Le.refl _)) (slotsLe.cons (And.intro rfl (AV.Le.refl _)) (slotsLe.cons (And.intro rfl (AV.Le.refl _)) (slotsLe.cons (And.intro rfl (AV.Le.refl _)) (slotsLe.cons (And.intro rfl (AV.Le.refl _)) slotsLe.nil))))))))
              · ((conv=>whnf);repeat((first|refine Ta ?_|refine Tz mix ?_|refine Tc ?_|refine Tb ?_|refine Td rfl ?_|refine Tl ?_|refine sE rfl ?_|refine dG (by kernel_rfl) ?_|fail);(conv=>whnf)))
                refine bnd h57 (fun y46 hy46 h57 => ?_)
                refine Or.inl ⟨_, contract_le (c_decomp_chain _ _ _ hy46) (argsLe.cons (AV.Le.agg (argsLe.cons (AV.Le.list (by simp; try omega) (fun j hj => by first | rfl | rw [getD_sub hj] | (rw [getD_take hj]; simp) | simp)) (argsLe.cons (AV.Le.list rfl (fun j hj => absurd hj (Nat.not_lt_zero _))) (argsLe.cons (AV.Le.list rfl (fun j hj => absurd hj (Nat.not_lt_zero _))) argsLe.nil)))) (argsLe.cons (AV.Le.refl _) argsLe.nil)), rfl, ?_⟩
                have e := Option.some.inj h57; subst e
                ((conv=>whnf);repeat((first|refine Ta ?_|refine Tz mix ?_|refine Tc ?_|refine Tb ?_|refine Td rfl ?_|refine Tl ?_|refine sE rfl ?_|refine dG (by kernel_rfl) ?_|fail);(conv=>whnf)))
                exact hn57 _ (decide (y46 > (8 : Int))) h41_ (weak_gen [0, 1] rfl rfl (storeLe.cons rfl (objLe.mk id id (rowLe_vals (valsLe.cons (cellsLe_refl rfl) valsLe.nil))) (storeLe.cons rfl (objLe.mk id id (rowLe_vals (valsLe.cons (cellsLe_refl rfl) valsLe.nil))) storeLe.nil)) (slotsLe.cons (And.intro rfl (AV.Le.refl _)) (slotsLe.cons (And.intro rfl (AV.Le.refl _)) (slotsLe.cons (And.intro rfl (AV.Le.refl _)) (slotsLe.cons (And.intro rfl (AV.Le.refl _)) (slotsLe.cons (And.intro rfl (AV.Le.refl _)) (slotsLe.cons (And.intro rfl (AV.Le.refl _)) (slotsLe.cons (And.intro rfl (AV.Le.refl _)) slotsLe.nil))))))))
            · ((conv=>whnf);repeat((first|refine Ta ?_|refine Tz mix ?_|refine Tc ?_|refine Tb ?_|refine Td rfl ?_|refine Tl ?_|refine sE rfl ?_|refine dG (by kernel_rfl) ?_|fail);(conv=>whnf)))
              refine bnd h57 (fun y47 hy47 h57 => ?_)
              refine Or.inl ⟨_, contract_le (c_decomp_chain _ _ _ hy47) (argsLe.cons (AV.Le.agg (argsLe.cons (AV.Le.list (by simp; try omega) (fun j hj => by first | rfl | rw [getD_sub hj] | (rw [getD_take hj]; simp) | simp)) (argsLe.cons (AV.Le.list rfl (fun j hj => absurd hj (Nat.not_lt_zero _))) (argsLe.cons (AV.Le.list rfl (fun j hj => absurd hj (Nat.not_lt_zero _))) argsLe.nil)))) (argsLe.cons (AV.Le.refl _) argsLe.nil)), rfl, ?_⟩
              have e := Option.some.inj h57; subst e
              ((conv=>whnf);repeat((first|refine Ta ?_|refine Tz mix ?_|refine Tc ?_|refine Tb ?_|refine Td rfl ?_|refine Tl ?_|refine sE rfl ?_|refine dG (by kernel_rfl) ?_|fail);(conv=>whnf)))
              exact hn57 _ (decide (y47 > (8 : Int))) h41_ (weak_gen [0, 1] rfl rfl (storeLe.cons rfl (objLe.mk id id (rowLe_vals (valsLe.cons (cellsLe_refl rfl) valsLe.nil))) (storeLe.cons rfl (objLe.mk id id (rowLe_vals (valsLe.cons (cellsLe_refl rfl) valsLe.nil))) storeLe.nil)) (slotsLe.cons (And.intro rfl (AV.Le.refl _)) (slotsLe.cons (And.intro rfl (AV.Le.refl _)) (slotsLe.cons (And.intro rfl (AV.Le.refl _)) (slotsLe.cons (And.intro rfl (AV.Le.refl _)) (slotsLe.cons (And.intro rfl (AV.Le.refl _)) (slotsLe.cons (And.intro rfl (AV.Le.refl _)) (slotsLe.cons (And.intro rfl (AV.Le.refl _)) slotsLe.nil))))))))
          · clear h41_ h57
            intro s42 hc60
            ((conv=>whnf);repeat((first|refine Ta ?_|refine Tz mix ?_|refine Tc ?_|refine Tb ?_|refine Td rfl ?_|refine Tl ?_|refine sE rfl ?_|refine dG (by kernel_rfl) ?_|fail);(conv=>whnf)))
            refine br_b rfl hc60 (fun c61 hc60 => ?_) (fun c61 hc60 => ?_)
            · ((conv=>whnf);repeat((first|refine Ta ?_|refine Tz mix ?_|refine Tc ?_|refine Tb ?_|refine Td rfl ?_|refine Tl ?_|refine sE rfl ?_|refine dG (by kernel_rfl) ?_|fail);(conv=>whnf)))
              refine bnd hc60 (fun y44 hy44 hc60 => ?_)
              refine Or.inl ⟨_, c_decomp_fault _ _ _ hy44, rfl, ?_⟩
              have e := Option.some.inj hc60; subst e
              have e := done_out hs41; subst e
              have e := Option.some.inj hc53; subst e
              ((conv=>whnf);repeat((first|refine Ta ?_|refine Tz mix ?_|refine Tc ?_|refine Tb ?_|refine Td rfl ?_|refine Tl ?_|refine sE rfl ?_|refine dG (by kernel_rfl) ?_|fail);(conv=>whnf)))
              exact And.intro (AV.Le.refl _) rfl
            · have e := Option.some.inj hc60; subst e
              ((conv=>whnf);repeat((first|refine Ta ?_|refine Tz mix ?_|refine Tc ?_|refine Tb ?_|refine Td rfl ?_|refine Tl ?_|refine sE rfl ?_|refine dG (by kernel_rfl) ?_|fail);(conv=>whnf)))
              exact hn41 _ (IntKind.wrap .i64 (s39 + (1 : Int))) hs41 (weak_gen [0, 1] rfl rfl (storeLe.cons rfl (objLe.mk id id (rowLe_vals (valsLe.cons (cellsLe_refl rfl) valsLe.nil))) (storeLe.cons rfl (objLe.mk id id (rowLe_vals (valsLe.cons (cellsLe_refl rfl) valsLe.nil))) storeLe.nil)) (slotsLe.cons (And.intro rfl (AV.Le.refl _)) (slotsLe.cons (And.intro rfl (AV.Le.refl _)) (slotsLe.cons (And.intro rfl (AV.Le.refl _)) (slotsLe.cons (And.intro rfl (AV.Le.refl _)) (slotsLe.cons (And.intro rfl (AV.Le.refl _)) slotsLe.nil))))))
        · have e := Option.some.inj h41_; subst e
          have e := done_out hs41; subst e
          ((conv=>whnf);repeat((first|refine Ta ?_|refine Tz mix ?_|refine Tc ?_|refine Tb ?_|refine Td rfl ?_|refine Tl ?_|refine sE rfl ?_|refine dG (by kernel_rfl) ?_|fail);(conv=>whnf)))
          exact hn55 _ () hc53 (weak_gen [0] rfl rfl (storeLe.cons rfl (objLe.mk id id (rowLe_vals (valsLe.cons (cellsLe_refl rfl) valsLe.nil))) storeLe.nil) (slotsLe.cons (And.intro rfl (AV.Le.refl _)) (slotsLe.cons (And.intro rfl (AV.Le.refl _)) slotsLe.nil)))
      · clear hc53 h55
        intro s5 hc62
        ((conv=>whnf);repeat((first|refine Ta ?_|refine Tz mix ?_|refine Tc ?_|refine Tb ?_|refine Td rfl ?_|refine Tl ?_|refine sE rfl ?_|refine dG (by kernel_rfl) ?_|fail);(conv=>whnf)))
        refine br_b rfl hc62 (fun c63 hc62 => ?_) (fun c63 hc62 => ?_)
        · ((conv=>whnf);repeat((first|refine Ta ?_|refine Tz mix ?_|refine Tc ?_|refine Tb ?_|refine Td rfl ?_|refine Tl ?_|refine sE rfl ?_|refine dG (by kernel_rfl) ?_|fail);(conv=>whnf)))
          refine bnd hc62 (fun y7 hy7 hc62 => ?_)
          refine Or.inl ⟨_, c_decomp_rowError _ _ _ hy7, rfl, ?_⟩
          ((conv=>whnf);repeat((first|refine Ta ?_|refine Tz mix ?_|refine Tc ?_|refine Tb ?_|refine Td rfl ?_|refine Tl ?_|refine sE rfl ?_|refine dG (by kernel_rfl) ?_|fail);(conv=>whnf)))
          refine bnd hc62 (fun y8 hy8 hc62 => ?_)
          refine Or.inl ⟨_, c_decomp_fault _ _ _ hy8, rfl, ?_⟩
          have e := Option.some.inj hc62; subst e
          ((conv=>whnf);repeat((first|refine Ta ?_|refine Tz mix ?_|refine Tc ?_|refine Tb ?_|refine Td rfl ?_|refine Tl ?_|refine sE rfl ?_|refine dG (by kernel_rfl) ?_|fail);(conv=>whnf)))
          exact And.intro (AV.Le.refl _) rfl
        · ((conv=>whnf);repeat((first|refine Ta ?_|refine Tz mix ?_|refine Tc ?_|refine Tb ?_|refine Td rfl ?_|refine Tl ?_|refine sE rfl ?_|refine dG (by kernel_rfl) ?_|fail);(conv=>whnf)))
          refine bnd hc62 (fun y9 hy9 hc62 => ?_)
          refine Or.inl ⟨_, c_ranges_Check _ _ hy9, rfl, ?_⟩
          ((conv=>whnf);repeat((first|refine Ta ?_|refine Tz mix ?_|refine Tc ?_|refine Tb ?_|refine Td rfl ?_|refine Tl ?_|refine sE rfl ?_|refine dG (by kernel_rfl) ?_|fail);(conv=>whnf)))
          refine br_b rfl hc62 (fun c64 hc62 => ?_) (fun c64 hc62 => ?_)
          · have e := Option.some.inj hc62; subst e
            ((conv=>whnf);repeat((first|refine Ta ?_|refine Tz mix ?_|refine Tc ?_|refine Tb ?_|refine Td rfl ?_|refine Tl ?_|refine sE rfl ?_|refine dG (by kernel_rfl) ?_|fail);(conv=>whnf)))
            exact And.intro (AV.Le.refl _) rfl
          · ((conv=>whnf);repeat((first|refine Ta ?_|refine Tz mix ?_|refine Tc ?_|refine Tb ?_|refine Td rfl ?_|refine Tl ?_|refine sE rfl ?_|refine dG (by kernel_rfl) ?_|fail);(conv=>whnf)))
            refine bnd hc62 (fun x65 h65 hc62 => ?_)
            refine cut_at (fun s10 : Unit => mkF 136 [(1, (.mp 0 0 0))] [some ⟨3, 40, (.vals [(e_api_Norm p_t)]), false, false⟩]) (fun s10 : Unit => m_decomp_Check_K11 p_t s10 = some r) ?_ ?_
            · intro Kn65 hn65
              ((conv=>whnf);repeat((first|refine Ta ?_|refine Tz mix ?_|refine Tc ?_|refine Tb ?_|refine Td rfl ?_|refine Tl ?_|refine sE rfl ?_|refine dG (by kernel_rfl) ?_|fail);(conv=>whnf)))
              refine loop_iter (fun s28 : Int => mkF 136 [(1, (.mp 0 0 0)), (79, (e_L_api_Range p_t.f_Classes)), (80, (.int .i64 ((p_t.f_Classes.length : Nat) : Int))), (81, (.int .i64 s28))] [some ⟨3, 40, (.vals [(e_api_Norm p_t)]), false, false⟩]) h65 (weak_gen [0] rfl rfl (storeLe.cons rfl (objLe.mk id id (rowLe_vals (valsLe.cons (cellsLe_refl rfl) valsLe.nil))) storeLe.nil) (slotsLe.cons (And.intro rfl (AV.Le.refl _)) (slotsLe.cons (And.intro rfl (AV.Le.refl _)) (slotsLe.cons (And.intro rfl (AV.Le.refl _)) (slotsLe.cons (And.intro rfl (AV.Le.refl _)) slotsLe.nil))))) ?_
              intro k30 s28 st30 Kn30 hn30 h30_ hs30
              ((conv=>whnf);repeat((first|refine Ta ?_|refine Tz mix ?_|refine Tc ?_|refine Tb ?_|refine Td rfl ?_|refine Tl ?_|refine sE rfl ?_|refine dG (by kernel_rfl) ?_|fail);(conv=>whnf)))
              refine br_b rfl h30_ (fun c66 h30_ => ?_) (fun c66 h30_ => ?_)
              · ((conv=>whnf);repeat((first|refine Ta ?_|refine Tz mix ?_|refine Tc ?_|refine Tb ?_|refine Td rfl ?_|refine Tl ?_|refine sE rfl ?_|refine dG (by kernel_rfl) ?_|fail);(conv=>whnf)))
                refine grd2 rfl rfl h30_ (fun h30_ => ?_)
                ((conv=>whnf);repeat((first|refine Ta ?_|refine Tz mix ?_|refine Tc ?_|refine Tb ?_|refine Td rfl ?_|refine Tl ?_|refine sE rfl ?_|refine dG (by kernel_rfl) ?_|fail);(conv=>whnf)))
                refine bnd h30_ (fun x67 h67 h30_ => ?_)
                refine cut_at (fun s31 : Bool => mkF 136 [(1, (.mp 0 0 0)), (8, (.int .i64 s28)), (79, (e_L_api_Range p_t.f_Classes)), (80, (.int .i64 ((p_t.f_Classes.length : Nat) : Int))), (81, (.int .i64 s28)), (97, (.bool s31))] [some ⟨3, 40, (.vals [(e_api_Norm p_t)]), false, false⟩]) (fun s31 : Bool => m_decomp_Check_K32 s28 s31 = some st30) ?_ ?_
                · intro Kn67 hn67
                  ((conv=>whnf);repeat((first|refine Ta ?_|refine Tz mix ?_|refine Tc ?_|refine Tb ?_|refine Td rfl ?_|refine Tl ?_|refine sE rfl ?_|refine dG (by kernel_rfl) ?_|fail);(conv=>whnf)))
                  refine br_b rfl h67 (fun c68 h67 => ?_) (fun c68 h67 => ?_)
                  · have e := Option.some.inj h67; subst e
                    ((conv=>whnf);repeat((first|refine Ta ?_|refine Tz mix ?_|refine Tc ?_|refine Tb ?_|refine Td rfl ?_|refine Tl ?_|refine sE rfl ?_|refine dG (by kernel_rfl) ?_|fail);(conv=>whnf)))
                    exact hn67 _ true h30_ (weak_gen [0] rfl rfl (storeLe.cons rfl (objLe.mk id id (rowLe_vals (valsLe.cons (cellsLe_refl rfl) valsLe.nil))) storeLe.nil) (slotsLe.cons (And.intro rfl (AV.Le.refl _)) (slotsLe.cons (And.intro rfl (AV.Le.refl _)) (slotsLe.cons (And.intro rfl (AV.Le.refl _)) (slotsLe.cons (And.intro rfl (AV.Le.refl _)) (slotsLe.cons (And.intro rfl (AV.Le.refl _)) (slotsLe.cons (And.intro rfl (AV.Le.refl _)) slotsLe.nil)))))))
                  · ((conv=>whnf);repeat((first|refine Ta ?_|refine Tz mix ?_|refine Tc ?_|refine Tb ?_|refine Td rfl ?_|refine Tl ?_|refine sE rfl ?_|refine dG (by kernel_rfl) ?_|fail);(conv=>whnf)))
                    refine br_b rfl h67 (fun c69 h67 => ?_) (fun c69 h67 => ?_)
                    · have e := Option.some.inj h67; subst e
                      ((conv=>whnf);repeat((first|refine Ta ?_|refine Tz mix ?_|refine Tc ?_|refine Tb ?_|refine Td rfl ?_|refine Tl ?_|refine sE rfl ?_|refine dG (by kernel_rfl) ?_|fail);(conv=>whnf)))
                      exact hn67 _ true h30_ (weak_gen [0] rfl rfl (storeLe.cons rfl (objLe.mk id id (rowLe_vals (valsLe.cons (cellsLe_refl rfl) valsLe.nil))) storeLe.nil) (slotsLe.cons (And.intro rfl (AV.Le.refl _)) (slotsLe.cons (And.intro rfl (AV.Le.refl _)) (slotsLe.cons (And.intro rfl (AV.Le.refl _)) (slotsLe.cons (And.intro rfl (AV.Le.refl _)) (slotsLe.cons (And.intro rfl (AV.Le.refl _)) (slotsLe.cons (And.intro rfl (AV.Le.refl _)) slotsLe.nil)))))))
                    · ((conv=>whnf);repeat((first|refine Ta ?_|refine Tz mix ?_|refine Tc ?_|refine Tb ?_|refine Td rfl ?_|refine Tl ?_|refine sE rfl ?_|refine dG (by kernel_rfl) ?_|fail);(conv=>whnf)))
                      refine bnd h67 (fun y34 hy34 h67 => ?_)
                      refine Or.inl ⟨_, c_decomp_korean _ _ hy34, rfl, ?_⟩
                      have e := Option.some.inj h67; subst e
                      ((conv=>whnf);repeat((first|refine Ta ?_|refine Tz mix ?_|refine Tc ?_|refine Tb ?_|refine Td rfl ?_|refine Tl ?_|refine sE rfl ?_|refine dG (by kernel_rfl) ?_|fail);(conv=>whnf)))
                      exact hn67 _ y34 h30_ (weak_gen [0] rfl rfl (storeLe.cons rfl (objLe.mk id id (rowLe_vals (valsLe.cons (cellsLe_refl rfl) valsLe.nil))) storeLe.nil) (slotsLe.cons (And.intro rfl (AV.Le.refl _)) (slotsLe.cons (And.intro rfl (AV.Le.refl _)) (slotsLe.cons (And.intro rfl (AV.Le.refl _)) (slotsLe.cons (And.intro rfl (AV.Le.refl _)) (slotsLe.cons (And.intro rfl (AV.Le.refl _)) (slotsLe.cons (And.intro rfl (AV.Le.refl _)) slotsLe.nil)))))))
                · clear h30_ h67
                  intro s31 hc70
                  ((conv=>whnf);repeat((first|refine Ta ?_|refine Tz mix ?_|refine Tc ?_|refine Tb ?_|refine Td rfl ?_|refine Tl ?_|refine sE rfl ?_|refine dG (by kernel_rfl) ?_|fail);(conv=>whnf)))
                  refine br_b rfl hc70 (fun c71 hc70 => ?_) (fun c71 hc70 => ?_)
                  · ((conv=>whnf);repeat((first|refine Ta ?_|refine Tz mix ?_|refine Tc ?_|refine Tb ?_|refine Td rfl ?_|refine Tl ?_|refine sE rfl ?_|refine dG (by kernel_rfl) ?_|fail);(conv=>whnf)))
                    refine bnd hc70 (fun y33 hy33 hc70 => ?_)
                    refine Or.inl ⟨_, c_decomp_fault _ _ _ hy33, rfl, ?_⟩
                    have e := Option.some.inj hc70; subst e
                    have e := done_out hs30; subst e
                    have e := Option.some.inj hc62; subst e
                    ((conv=>whnf);repeat((first|refine Ta ?_|refine Tz mix ?_|refine Tc ?_|refine Tb ?_|refine Td rfl ?_|refine Tl ?_|refine sE rfl ?_|refine dG (by kernel_rfl) ?_|fail);(conv=>whnf)))
                    exact And.intro (AV.Le.refl _) rfl
                  · have e := Option.some.inj hc70; subst e
                    ((conv=>whnf);repeat((first|refine Ta ?_|refine Tz mix ?_|refine Tc ?_|refine Tb ?_|refine Td rfl ?_|refine Tl ?_|refine sE rfl ?_|refine dG (by kernel_rfl) ?_|fail);(conv=>whnf)))
                    exact hn30 _ (IntKind.wrap .i64 (s28 + (1 : Int))) hs30 (weak_gen [0] rfl rfl (storeLe.cons rfl (objLe.mk id id (rowLe_vals (valsLe.cons (cellsLe_refl rfl) valsLe.nil))) storeLe.nil) (slotsLe.cons (And.intro rfl (AV.Le.refl _)) (slotsLe.cons (And.intro rfl (AV.Le.refl _)) (slotsLe.cons (And.intro rfl (AV.Le.refl _)) (slotsLe.cons (And.intro rfl (AV.Le.refl _)) slotsLe.nil)))))
              · have e := Option.some.inj h30_; subst e
                have e := done_out hs30; subst e
                ((conv=>whnf);repeat((first|refine Ta ?_|refine Tz mix ?_|refine Tc ?_|refine Tb ?_|refine Td rfl ?_|refine Tl ?_|refine sE rfl ?_|refine dG (by kernel_rfl) ?_|fail);(conv=>whnf)))
                exact hn65 _ () hc62 (weak_gen [0] rfl rfl (storeLe.cons rfl (objLe.mk id id (rowLe_vals (valsLe.cons (cellsLe_refl rfl) valsLe.nil))) storeLe.nil) (slotsLe.cons (And.intro rfl (AV.Le.refl _)) slotsLe.nil))
            · clear hc62 h65
              intro s10 hc72
              ((conv=>whnf);repeat((first|refine Ta ?_|refine Tz mix ?_|refine Tc ?_|refine Tb ?_|refine Td rfl ?_|refine Tl ?_|refine sE rfl ?_|refine dG (by kernel_rfl) ?_|fail);(conv=>whnf)))
              refine bnd hc72 (fun x73 h73 hc72 => ?_)
              refine cut_at (fun s12 : Unit => mkF 136 [(1, (.mp 0 0 0))] [some ⟨3, 40, (.vals [(e_api_Norm p_t)]), false, false⟩]) (fun s12 : Unit => m_decomp_Check_K13 p_t s12 = some r) ?_ ?_
              · intro Kn73 hn73
                ((conv=>whnf);repeat((first|refine Ta ?_|refine Tz mix ?_|refine Tc ?_|refine Tb ?_|refine Td rfl ?_|refine Tl ?_|refine sE rfl ?_|refine dG (by kernel_rfl) ?_|fail);(conv=>whnf)))
                refine loop_iter (fun s16 : Int => mkF 136 [(1, (.mp 0 0 0)), (103, (e_L_i32 p_t.f_Excluded)), (104, (.int .i64 ((p_t.f_Excluded.length : Nat) : Int))), (105, (.int .i64 s16))] [some ⟨3, 40, (.vals [(e_api_Norm p_t)]), false, false⟩]) h73 (weak_gen [0] rfl rfl (storeLe.cons rfl (objLe.mk id id (rowLe_vals (valsLe.cons (cellsLe_refl rfl) valsLe.nil))) storeLe.nil) (slotsLe.cons (And.intro rfl (AV.Le.refl _)) (slotsLe.cons (And.intro rfl (AV.Le.refl _)) (slotsLe.cons (And.intro rfl (AV.Le.refl _)) (slotsLe.cons (And.intro rfl (AV.Le.refl _)) slotsLe.nil))))) ?_
                intro k18 s16 st18 Kn18 hn18 h18_ hs18
                ((conv=>whnf);repeat((first|refine Ta ?_|refine Tz mix ?_|refine Tc ?_|refine Tb ?_|refine Td rfl ?_|refine Tl ?_|refine sE rfl ?_|refine dG (by kernel_rfl) ?_|fail);(conv=>whnf)))
                refine br_b rfl h18_ (fun c74 h18_ => ?_) (fun c74 h18_ => ?_)
                · ((conv=>whnf);repeat((first|refine Ta ?_|refine Tz mix ?_|refine Tc ?_|refine Tb ?_|refine Td rfl ?_|refine Tl ?_|refine sE rfl ?_|refine dG (by kernel_rfl) ?_|fail);(conv=>whnf)))
                  refine grd2 rfl rfl h18_ (fun h18_ => ?_)
                  ((conv=>whnf);repeat((first|refine Ta ?_|refine Tz mix ?_|refine Tc ?_|refine Tb ?_|refine Td rfl ?_|refine Tl ?_|refine sE rfl ?_|refine dG (by kernel_rfl) ?_|fail);(conv=>whnf)))
                  refine bnd h18_ (fun y19 hy19 h18_ => ?_)
                  refine Or.inl ⟨_, c_utf_Right _ _ hy19, rfl, ?_⟩
                  ((conv=>whnf);repeat((first|refine Ta ?_|refine Tz mix ?_|refine Tc ?_|refine Tb ?_|refine Td rfl ?_|refine Tl ?_|refine sE rfl ?_|refine dG (by kernel_rfl) ?_|fail);(conv=>whnf)))
                  refine br_b rfl h18_ (fun c75 h18_ => ?_) (fun c75 h18_ => ?_)
                  · ((conv=>whnf);repeat((first|refine Ta ?_|refine Tz mix ?_|refine Tc ?_|refine Tb ?_|refine Td rfl ?_|refine Tl ?_|refine sE rfl ?_|refine dG (by kernel_rfl) ?_|fail);(conv=>whnf)))
                    refine bnd h18_ (fun y20 hy20 h18_ => ?_)
                    refine Or.inl ⟨_, c_decomp_fault _ _ _ hy20, rfl, ?_⟩
                    have e := Option.some.inj h18_; subst e
                    have e := done_out hs18; subst e
                    have e := Option.some.inj hc72; subst e
                    ((conv=>whnf);repeat((first|refine Ta ?_|refine Tz mix ?_|refine Tc ?_|refine Tb ?_|refine Td rfl ?_|refine Tl ?_|refine sE rfl ?_|refine dG (by kernel_rfl) ?_|fail);(conv=>whnf)))
                    exact And.intro (AV.Le.refl _) rfl
                  · ((conv=>whnf);repeat((first|refine Ta ?_|refine Tz mix ?_|refine Tc ?_|refine Tb ?_|refine Td rfl ?_|refine Tl ?_|refine sE rfl ?_|refine dG (by kernel_rfl) ?_|fail);(conv=>whnf)))
                    refine bnd h18_ (fun x76 h76 h18_ => ?_)
                    refine cut_at (fun s21 : Bool => mkF 136 [(1, (.mp 0 0 0)), (10, (.int .i64 s16)), (103, (e_L_i32 p_t.f_Excluded)), (104, (.int .i64 ((p_t.f_Excluded.length : Nat) : Int))), (105, (.int .i64 s16)), (117, (.bool s21))] [some ⟨3, 40, (.vals [(e_api_Norm p_t)]), false, false⟩]) (fun s21 : Bool => m_decomp_Check_K22 s16 s21 = some st18) ?_ ?_
                    · intro Kn76 hn76
                      ((conv=>whnf);repeat((first|refine Ta ?_|refine Tz mix ?_|refine Tc ?_|refine Tb ?_|refine Td rfl ?_|refine Tl ?_|refine sE rfl ?_|refine dG (by kernel_rfl) ?_|fail);(conv=>whnf)))
                      refine br_b rfl h76 (fun c77 h76 => ?_) (fun c77 h76 => ?_)
                      · ((conv=>whnf);repeat((first|refine Ta ?_|refine Tz mix ?_|refine Tc ?_|refine Tb ?_|refine Td rfl ?_|refine Tl ?_|refine sE rfl ?_|refine dG (by kernel_rfl) ?_|fail);(conv=>whnf)))
                        refine grd2 rfl rfl h76 (fun h76 => ?_)
                        have e := Option.some.inj h76; subst e
                        ((conv=>whnf);repeat((first|refine Ta ?_|refine Tz mix ?_|refine Tc ?_|refine Tb ?_|refine Td rfl ?_|refine Tl ?_|refine sE rfl ?_|refine dG (by kernel_rfl) ?_|fail);(conv=>whnf)))
                        exact hn76 _ (decide ((p_t.f_Excluded.getD (s16.toNat) 0) ≤ (p_t.f_Excluded.getD ((IntKind.wrap .i64 (s16 - (1 : Int))).toNat) 0))) h18_ (weak_gen [0] rfl rfl (storeLe.cons rfl (objLe.mk id id (rowLe_vals (valsLe.cons (cellsLe_refl rfl) valsLe.nil))) storeLe.nil) (slotsLe.cons (And.intro rfl (AV.Le.refl _)) (slotsLe.cons (And.intro rfl (AV.Le.refl _)) (slotsLe.cons (And.intro rfl (AV.Le.refl _)) (slotsLe.cons (And.intro rfl (AV.Le.refl _)) (slotsLe.cons (And.intro rfl (AV.Le.refl _)) (slotsLe.cons (And.intro rfl (AV.Le.refl _)) slotsLe.nil)))))))
                      · have e := Option.some.inj h76; subst e
                        ((conv=>whnf);repeat((first|refine Ta ?_|refine Tz mix ?_|refine Tc ?_|refine Tb ?_|refine Td rfl ?_|refine Tl ?_|refine sE rfl ?_|refine dG (by kernel_rfl) ?_|fail);(conv=>whnf)))
                        exact hn76 _ false h18_ (weak_gen [0] rfl rfl (storeLe.cons rfl (objLe.mk id id (rowLe_vals (valsLe.cons (cellsLe_refl rfl) valsLe.nil))) storeLe.nil) (slotsLe.cons (And.intro rfl (AV.Le.refl _)) (slotsLe.cons (And.intro rfl (AV.Le.refl _)) (slotsLe.cons (And.intro rfl (AV.Le.refl _)) (slotsLe.cons (And.intro rfl (AV.Le.refl _)) (slotsLe.cons (And.intro rfl (AV.Le.refl _)) (slotsLe.cons (And.intro rfl (AV.Le.refl _)) slotsLe.nil)))))))
                    · clear h18_ h76
                      intro s21 hc78
                      ((conv=>whnf);repeat((first|refine Ta ?_|refine Tz mix ?_|refine Tc ?_|refine Tb ?_|refine Td rfl ?_|refine Tl ?_|refine sE rfl ?_|refine dG (by kernel_rfl) ?_|fail);(conv=>whnf)))
                      refine br_b rfl hc78 (fun c79 hc78 => ?_) (fun c79 hc78 => ?_)
                      · ((conv=>whnf);repeat((first|refine Ta ?_|refine Tz mix ?_|refine Tc ?_|refine Tb ?_|refine Td rfl ?_|refine Tl ?_|refine sE rfl ?_|refine dG (by kernel_rfl) ?_|fail);(conv=>whnf)))
                        refine bnd hc78 (fun y23 hy23 hc78 => ?_)
                        refine Or.inl ⟨_, c_decomp_fault _ _ _ hy23, rfl, ?_⟩
                        have e := Option.some.inj hc78; subst e
                        have e := done_out hs18; subst e
                        have e := Option.some.inj hc72; subst e
                        ((conv=>whnf);repeat((first|refine Ta ?_|refine Tz mix ?_|refine Tc ?_|refine Tb ?_|refine Td rfl ?_|refine Tl ?_|refine sE rfl ?_|refine dG (by kernel_rfl) ?_|fail);(conv=>whnf)))
                        exact And.intro (AV.Le.refl _) rfl
                      · have e := Option.some.inj hc78; subst e
                        ((conv=>whnf);repeat((first|refine Ta ?_|refine Tz mix ?_|refine Tc ?_|refine Tb ?_|refine Td rfl ?_|refine Tl ?_|refine sE rfl ?_|refine dG (by kernel_rfl) ?_|fail);(conv=>whnf)))
                        exact hn18 _ (IntKind.wrap .i64 (s16 + (1 : Int))) hs18 (weak_gen [0] rfl rfl (storeLe.cons rfl (objLe.mk id id (rowLe_vals (valsLe.cons (cellsLe_refl rfl) valsLe.nil))) storeLe.nil) (slotsLe.cons (And.intro rfl (AV.Le.refl _)) (slotsLe.cons (And.intro rfl (AV.Le.refl _)) (slotsLe.cons (And.intro rfl (AV.Le.refl _)) (slotsLe.cons (And.intro rfl (AV.Le.refl _)) slotsLe.nil)))))
                · have e := Option.some.inj h18_; subst e
                  have e := done_out hs18; subst e
                  ((conv=>whnf);repeat((first|refine Ta ?_|refine Tz mix ?_|refine Tc ?_|refine Tb ?_|refine Td rfl ?_|refine Tl ?_|refine sE rfl ?_|refine dG (by kernel_rfl) ?_|fail);(conv=>whnf)))
                  exact hn73 _ () hc72 (weak_gen [0] rfl rfl (storeLe.cons rfl (objLe.mk id id (rowLe_vals (valsLe.cons (cellsLe_refl rfl) valsLe.nil))) storeLe.nil) (slotsLe.cons (And.intro rfl (AV.Le.refl _)) slotsLe.nil))
              · clear hc72 h73
                intro s12 hc80
                ((conv=>whnf);repeat((first|refine Ta ?_|refine Tz mix ?_|refine Tc ?_|refine Tb ?_|refine Td rfl ?_|refine Tl ?_|refine sE rfl ?_|refine dG (by kernel_rfl) ?_|fail);(conv=>whnf)))
                refine bnd hc80 (fun y14 hy14 hc80 => ?_)
                refine Or.inl ⟨_, c_decomp_twice _ _ hy14, rfl, ?_⟩
                have e := Option.some.inj hc80; subst e
                ((conv=>whnf);repeat((first|refine Ta ?_|refine Tz mix ?_|refine Tc ?_|refine Tb ?_|refine Td rfl ?_|refine Tl ?_|refine sE rfl ?_|refine dG (by kernel_rfl) ?_|fail);(conv=>whnf)))
                exact And.intro (AV.Le.refl _) rfl
theorem c_slices_Reverse_rune_rune_own (p_s : (List Int)) (r : (List Int)) (h : m_slices_Reverse_rune_rune_own p_s = some r) : ContractM 1 pl 88 [(.ms 0 p_s.length)] [some ⟨1, 21, (.ints .i32 p_s), false, true⟩] (.tup []) [some ⟨1, 21, (.ints .i32 r), false, true⟩] := by
  refine contract_own 1 .z rfl Tryd.func88 rfl (by kernel_rfl) ?_
  ((conv=>whnf);repeat((first|refine Ta ?_|refine Tz mix ?_|refine Tc ?_|refine Tb ?_|refine Td rfl ?_|refine Tl ?_|refine sE rfl ?_|refine dG (by kernel_rfl) ?_|fail);(conv=>whnf)))
  refine bnd h (fun x4 hx4 h => ?_)
  refine loop_iter (fun s2 : (List Int) × Int × Int => mkF 28 [(0, (.ms 0 s2.1.length)), (2, (.int .i64 s2.2.1)), (3, (.int .i64 s2.2.2))] [some ⟨1, 21, (.ints .i32 s2.1), false, true⟩]) hx4 (weak_gen [0] rfl rfl (storeLe.cons rfl (objLe.mk id id (rowLe_ints (by first | rfl | simp))) storeLe.nil) (slotsLe.cons (And.intro rfl (AV.Le.of_eq (congrArg (AV.ms _) (by first | rfl | omega | (simp; omega) | simp)))) (slotsLe.cons (And.intro rfl (AV.Le.refl _)) (slotsLe.cons (And.intro rfl (AV.Le.refl _)) slotsLe.nil)))) ?_
  intro k4 s2 st4 Kn4 hn4 h4 hs4
  ((conv=>whnf);repeat((first|refine Ta ?_|refine Tz mix ?_|refine Tc ?_|refine Tb ?_|refine Td rfl ?_|refine Tl ?_|refine sE rfl ?_|refine dG (by kernel_rfl) ?_|fail);(conv=>whnf)))
  refine br_b rfl h4 (fun c6 h4 => ?_) (fun c6 h4 => ?_)
  · ((conv=>whnf);repeat((first|refine Ta ?_|refine Tz mix ?_|refine Tc ?_|refine Tb ?_|refine Td rfl ?_|refine Tl ?_|refine sE rfl ?_|refine dG (by kernel_rfl) ?_|fail);(conv=>whnf)))
    refine grd2 rfl rfl h4 (fun h4 => ?_)
    ((conv=>whnf);repeat((first|refine Ta ?_|refine Tz mix ?_|refine Tc ?_|refine Tb ?_|refine Td rfl ?_|refine Tl ?_|refine sE rfl ?_|refine dG (by kernel_rfl) ?_|fail);(conv=>whnf)))
    refine grd2 rfl rfl h4 (fun h4 => ?_)
    ((conv=>whnf);repeat((first|refine Ta ?_|refine Tz mix ?_|refine Tc ?_|refine Tb ?_|refine Td rfl ?_|refine Tl ?_|refine sE rfl ?_|refine dG (by kernel_rfl) ?_|fail);(conv=>whnf)))
    refine grd2 rfl rfl h4 (fun h4 => ?_)
    ((conv=>whnf);repeat((first|refine Ta ?_|refine Tz mix ?_|refine Tc ?_|refine Tb ?_|refine Td rfl ?_|refine Tl ?_|refine sE rfl ?_|refine dG (by kernel_rfl) ?_|fail);(conv=>whnf)))
    refine grd2 rfl rfl h4 (fun h4 => ?_)
    have e := Option.some.inj h4; subst e
    ((conv=>whnf);repeat((first|refine Ta ?_|refine Tz mix ?_|refine Tc ?_|refine Tb ?_|refine Td rfl ?_|refine Tl ?_|refine sE rfl ?_|refine dG (by kernel_rfl) ?_|fail);(conv=>whnf)))
    exact hn4 _ (((s2.1.set (s2.2.1.toNat) (s2.1.getD (s2.2.2.toNat) 0)).set (s2.2.2.toNat) (s2.1.getD (s2.2.1.toNat) 0)), (IntKind.wrap .i64 (s2.2.1 + (1 : Int))), (IntKind.wrap .i64 (s2.2.2 - (1 : Int)))) hs4 (weak_gen [0] rfl rfl (storeLe.cons rfl (objLe.mk id id (rowLe_ints (by first | rfl | simp))) storeLe.nil) (slotsLe.cons (And.intro rfl (AV.Le.of_eq (congrArg (AV.ms _) (by first | rfl | omega | (simp; omega) | simp)))) (slotsLe.cons (And.intro rfl (AV.Le.refl _)) (slotsLe.cons (And.intro rfl (AV.Le.refl _)) slotsLe.nil))))
  · have e := Option.some.inj h4; subst e
    have e := done_out hs4; subst e
    have e := Option.some.inj h; subst e
    ((conv=>whnf);repeat((first|refine Ta ?_|refine Tz mix ?_|refine Tc ?_|refine Tb ?_|refine Td rfl ?_|refine Tl ?_|refine sE rfl ?_|refine dG (by kernel_rfl) ?_|fail);(conv=>whnf)))
    exact Or.inr (Or.inr (weak_gen [0] rfl rfl (storeLe.cons rfl (objLe.mk id id (rowLe_ints (by first | rfl | simp))) storeLe.nil) (slotsLe.cons (And.intro rfl (AV.Le.refl _)) slotsLe.nil)))
theorem c_decomp_One (p_t : T_api_Norm) (p_r : Int) (r : (List Int)) (h : m_decomp_One p_t p_r = some r) : Contract pl 33 [(e_api_Norm p_t), (AV.int .i32 p_r)] [] (e_L_i32 r) [] := by
  refine contract_of (.t false .z (.t false .z (.t false .z (.t true (.t false .z (.t false (.t false (.t false .z (.t false (.t false (.t false .z (.t false (.t true .z .z) .z)) .z) .z)) .z) .z)) .z)))) Tryd.func33 rfl (by kernel_rfl) ?_
  ((conv=>whnf);repeat((first|refine Ta ?_|refine Tz mix ?_|refine Tc ?_|refine Tb ?_|refine Td rfl ?_|refine Tl ?_|refine sE rfl ?_|refine dG (by kernel_rfl) ?_|fail);(conv=>whnf)))
  refine bnd h (fun y1 hy1 h => ?_)
  refine Or.inl ⟨_, c_decomp_hangul _ _ hy1, rfl, ?_⟩
  ((conv=>whnf);repeat((first|refine Ta ?_|refine Tz mix ?_|refine Tc ?_|refine Tb ?_|refine Td rfl ?_|refine Tl ?_|refine sE rfl ?_|refine dG (by kernel_rfl) ?_|fail);(conv=>whnf)))
  refine br_b rfl h (fun c13 h => ?_) (fun c13 h => ?_)
  · ((conv=>whnf);repeat((first|refine Ta ?_|refine Tz mix ?_|refine Tc ?_|refine Tb ?_|refine Td rfl ?_|refine Tl ?_|refine sE rfl ?_|refine dG (by kernel_rfl) ?_|fail);(conv=>whnf)))
    refine And.intro (by decide) ?_
    ((conv=>whnf);repeat((first|refine Ta ?_|refine Tz mix ?_|refine Tc ?_|refine Tb ?_|refine Td rfl ?_|refine Tl ?_|refine sE rfl ?_|refine dG (by kernel_rfl) ?_|fail);(conv=>whnf)))
    refine And.intro (by decide) ?_
    ((conv=>whnf);repeat((first|refine Ta ?_|refine Tz mix ?_|refine Tc ?_|refine Tb ?_|refine Td rfl ?_|refine Tl ?_|refine sE rfl ?_|refine dG (by kernel_rfl) ?_|fail);(conv=>whnf)))
    refine And.intro (by decide) ?_
    ((conv=>whnf);repeat((first|refine Ta ?_|refine Tz mix ?_|refine Tc ?_|refine Tb ?_|refine Td rfl ?_|refine Tl ?_|refine sE rfl ?_|refine dG (by kernel_rfl) ?_|fail);(conv=>whnf)))
    refine And.intro (by decide) ?_
    ((conv=>whnf);repeat((first|refine Ta ?_|refine Tz mix ?_|refine Tc ?_|refine Tb ?_|refine Td rfl ?_|refine Tl ?_|refine sE rfl ?_|refine dG (by kernel_rfl) ?_|fail);(conv=>whnf)))
    refine br_b rfl h (fun c14 h => ?_) (fun c14 h => ?_)
    · ((conv=>whnf);repeat((first|refine Ta ?_|refine Tz mix ?_|refine Tc ?_|refine Tb ?_|refine Td rfl ?_|refine Tl ?_|refine sE rfl ?_|refine dG (by kernel_rfl) ?_|fail);(conv=>whnf)))
      refine And.intro (by decide) ?_
      ((conv=>whnf);repeat((first|refine Ta ?_|refine Tz mix ?_|refine Tc ?_|refine Tb ?_|refine Td rfl ?_|refine Tl ?_|refine sE rfl ?_|refine dG (by kernel_rfl) ?_|fail);(conv=>whnf)))
      refine ⟨[], 1, (.ints .i32 [(IntKind.wrap .i32 (IntKind.wrap .i64 ((4519 : Int) + (Int.tmod (IntKind.wrap .i64 ((IntKind.wrap .i64 p_r) - (44032 : Int))) (28 : Int)))))]), ⟨by simp [Row.len] <;> omega, rfl, _, rfl, by simp [Row.len] <;> omega, fun j hj => .inl rfl⟩, trivial, fun j hj => rfl, ?_⟩
      conv => whnf
      refine ⟨by simp [Row.len]; try omega, by decide, by decide, ?_⟩
      have e := Option.some.inj h; subst e
      ((conv=>whnf);repeat((first|refine Ta ?_|refine Tz mix ?_|refine Tc ?_|refine Tb ?_|refine Td rfl ?_|refine Tl ?_|refine sE rfl ?_|refine dG (by kernel_rfl) ?_|fail);(conv=>whnf)))
      exact And.intro (AV.Le.list (by simp; try omega) (fun j hj => by first | rfl | rw [getD_sub hj] | (rw [getD_take hj]; simp) | simp)) rfl
    · have e := Option.some.inj h; subst e
      ((conv=>whnf);repeat((first|refine Ta ?_|refine Tz mix ?_|refine Tc ?_|refine Tb ?_|refine Td rfl ?_|refine Tl ?_|refine sE rfl ?_|refine dG (by kernel_rfl) ?_|fail);(conv=>whnf)))
      exact And.intro (AV.Le.list (by simp; try omega) (fun j hj => by first | rfl | rw [getD_sub hj] | (rw [getD_take hj]; simp) | simp)) rfl
  · ((conv=>whnf);repeat((first|refine Ta ?_|refine Tz mix ?_|refine Tc ?_|refine Tb ?_|refine Td rfl ?_|refine Tl ?_|refine sE rfl ?_|refine dG (by kernel_rfl) ?_|fail);(conv=>whnf)))
    refine bnd h (fun x15 h15 h => ?_)
    refine cut_at (fun s2 : Int × (List Int) => mkF 81 [(1, (.int .i32 s2.1)), (7, (.ms 0 s2.2.length))] [some ⟨1, 21, (.ints .i32 s2.2), false, true⟩]) (fun s2 : Int × (List Int) => m_decomp_One_K3 s2 = some r) ?_ ?_
    · intro Kn15 hn15
      ((conv=>whnf);repeat((first|refine Ta ?_|refine Tz mix ?_|refine Tc ?_|refine Tb ?_|refine Td rfl ?_|refine Tl ?_|refine sE rfl ?_|refine dG (by kernel_rfl) ?_|fail);(conv=>whnf)))
      refine loop_iter (fun s6 : Int × (List Int) × Int => mkF 81 [(1, (.int .i32 s6.1)), (2, (.mp 0 0 0)), (7, (.ms 1 s6.2.1.length)), (8, (.int .i64 s6.2.2))] [some ⟨3, 40, (.vals [(e_api_Norm p_t)]), false, false⟩, some ⟨1, 21, (.ints .i32 s6.2.1), false, true⟩]) h15 (weak_trans (weak_nil 7 1 21 (.ints .i32 []) _ rfl rfl trivial (Nat.zero_le _)) (weak_gen [0, 1] rfl rfl (storeLe.cons rfl (objLe.mk id id (rowLe_vals (valsLe.cons (cellsLe_refl rfl) valsLe.nil))) (storeLe.cons rfl (objLe.mk id id (rowLe_ints (by first | rfl | simp))) storeLe.nil)) (slotsLe.cons (And.intro rfl (AV.Le.refl _)) (slotsLe.cons (And.intro rfl (AV.Le.refl _)) (slotsLe.cons (And.intro rfl (AV.Le.refl _)) (slotsLe.cons (And.intro rfl (AV.Le.refl _)) slotsLe.nil)))))) ?_
      intro k8 s6 st8 Kn8 hn8 h8_ hs8
      ((conv=>whnf);repeat((first|refine Ta ?_|refine Tz mix ?_|refine Tc ?_|refine Tb ?_|refine Td rfl ?_|refine Tl ?_|refine sE rfl ?_|refine dG (by kernel_rfl) ?_|fail);(conv=>whnf)))
      refine br_b rfl h8_ (fun c16 h8_ => ?_) (fun c16 h8_ => ?_)
      · ((conv=>whnf);repeat((first|refine Ta ?_|refine Tz mix ?_|refine Tc ?_|refine Tb ?_|refine Td rfl ?_|refine Tl ?_|refine sE rfl ?_|refine dG (by kernel_rfl) ?_|fail);(conv=>whnf)))
        refine bnd h8_ (fun y9 hy9 h8_ => ?_)
        refine Or.inl ⟨_, c_decomp_find _ _ _ hy9, rfl, ?_⟩
        ((conv=>whnf);repeat((first|refine Ta ?_|refine Tz mix ?_|refine Tc ?_|refine Tb ?_|refine Td rfl ?_|refine Tl ?_|refine sE rfl ?_|refine dG (by kernel_rfl) ?_|fail);(conv=>whnf)))
        refine bnd h8_ (fun x17 h17 h8_ => ?_)
        refine cut_at (fun s10 : Bool => mkF 81 [(1, (.int .i32 s6.1)), (2, (.mp 0 0 0)), (7, (.ms 1 s6.2.1.length)), (8, (.int .i64 s6.2.2)), (9, (.int .i64 y9)), (56, (.bool s10))] [some ⟨3, 40, (.vals [(e_api_Norm p_t)]), false, false⟩, some ⟨1, 21, (.ints .i32 s6.2.1), false, true⟩]) (fun s10 : Bool => m_decomp_One_K11 p_t s6 y9 s10 = some st8) ?_ ?_
        · intro Kn17 hn17
          ((conv=>whnf);repeat((first|refine Ta ?_|refine Tz mix ?_|refine Tc ?_|refine Tb ?_|refine Td rfl ?_|refine Tl ?_|refine sE rfl ?_|refine dG (by kernel_rfl) ?_|fail);(conv=>whnf)))
          refine br_b rfl h17 (fun c18 h17 => ?_) (fun c18 h17 => ?_)
          · have e := Option.some.inj h17; subst e
            ((conv=>whnf);repeat((first|refine Ta ?_|refine Tz mix ?_|refine Tc ?_|refine Tb ?_|refine Td rfl ?_|refine Tl ?_|refine sE rfl ?_|refine dG (by kernel_rfl) ?_|fail);(conv=>whnf)))
            exact hn17 _ true h8_ (weak_gen [0, 1] rfl rfl (storeLe.cons rfl (objLe.mk id id (rowLe_vals (valsLe.cons (cellsLe_refl rfl) valsLe.nil))) (storeLe.cons rfl (objLe.mk id id (by first | exact rowLe_same fun _ _ _ => rfl | (simp; exact rowLe_same fun _ _ _ => rfl))) storeLe.nil)) (slotsLe.cons (And.intro rfl (AV.Le.refl _)) (slotsLe.cons (And.intro rfl (AV.Le.refl _)) (slotsLe.cons (And.intro rfl (AV.Le.of_eq (congrArg (AV.ms _) (by first | rfl | omega | (simp; omega) | simp)))) (slotsLe.cons (And.intro rfl (AV.Le.refl _)) (slotsLe.cons (And.intro rfl (AV.Le.refl _)) (slotsLe.cons (And.intro rfl (AV.Le.refl _)) slotsLe.nil)))))))
          · ((conv=>whnf);repeat((first|refine Ta ?_|refine Tz mix ?_|refine Tc ?_|refine Tb ?_|refine Td rfl ?_|refine Tl ?_|refine sE rfl ?_|refine dG (by kernel_rfl) ?_|fail);(conv=>whnf)))
            refine grd2 rfl rfl h17 (fun h17 => ?_)
            have e := Option.some.inj h17; subst e
            ((conv=>whnf);repeat((first|refine Ta ?_|refine Tz mix ?_|refine Tc ?_|refine Tb ?_|refine Td rfl ?_|refine Tl ?_|refine sE rfl ?_|refine dG (by kernel_rfl) ?_|fail);(conv=>whnf)))
            exact hn17 _ ((((p_t.f_Rows.getD (y9.toNat) d_api_Row).f_To.length : Nat) : Int) == (0 : Int)) h8_ (weak_gen [0, 1] rfl rfl (storeLe.cons rfl (objLe.mk id id (rowLe_vals (valsLe.cons (cellsLe_refl rfl) valsLe.nil))) (storeLe.cons rfl (objLe.mk id id (by first | exact rowLe_same fun _ _ _ => rfl | (simp; exact rowLe_same fun _ _ _ => rfl))) storeLe.nil)) (slotsLe.cons (And.intro rfl (AV.Le.refl _)) (slotsLe.cons (And.intro rfl (AV.Le.refl _)) (slotsLe.cons (And.intro rfl (AV.Le.of_eq (congrArg (AV.ms _) (by first | rfl | omega | (simp; omega) | simp)))) (slotsLe.cons (And.intro rfl (AV.Le.refl _)) (slotsLe.cons (And.intro rfl (AV.Le.refl _)) (slotsLe.cons (And.intro rfl (AV.Le.refl _)) slotsLe.nil)))))))
        · clear h8_ h17
          intro s10 hc19
          ((conv=>whnf);repeat((first|refine Ta ?_|refine Tz mix ?_|refine Tc ?_|refine Tb ?_|refine Td rfl ?_|refine Tl ?_|refine sE rfl ?_|refine dG (by kernel_rfl) ?_|fail);(conv=>whnf)))
          refine br_b rfl hc19 (fun c20 hc19 => ?_) (fun c20 hc19 => ?_)
          · have e := Option.some.inj hc19; subst e
            have e := done_out hs8; subst e
            ((conv=>whnf);repeat((first|refine Ta ?_|refine Tz mix ?_|refine Tc ?_|refine Tb ?_|refine Td rfl ?_|refine Tl ?_|refine sE rfl ?_|refine dG (by kernel_rfl) ?_|fail);(conv=>whnf)))
            exact hn15 _ (s6.1, s6.2.1) h (weak_gen [1] rfl rfl (storeLe.cons rfl (objLe.mk id id (rowLe_ints (by first | rfl | simp))) storeLe.nil) (slotsLe.cons (And.intro rfl (AV.Le.refl _)) (slotsLe.cons (And.intro rfl (AV.Le.of_eq (congrArg (AV.ms _) (by first | rfl | omega | (simp; omega) | simp)))) slotsLe.nil)))
          · ((conv=>whnf);repeat((first|refine Ta ?_|refine Tz mix ?_|refine Tc ?_|refine Tb ?_|refine Td rfl ?_|refine Tl ?_|refine sE rfl ?_|refine dG (by kernel_rfl) ?_|fail);(conv=>whnf)))
            refine grd2 rfl rfl hc19 (fun hc19 => ?_)
            ((conv=>whnf);repeat((first|refine Ta ?_|refine Tz mix ?_|refine Tc ?_|refine Tb ?_|refine Td rfl ?_|refine Tl ?_|refine sE rfl ?_|refine dG (by kernel_rfl) ?_|fail);(conv=>whnf)))
            refine br_b rfl hc19 (fun c21 hc19 => ?_) (fun c21 hc19 => ?_)
            · ((conv=>whnf);repeat((first|refine Ta ?_|refine Tz mix ?_|refine Tc ?_|refine Tb ?_|refine Td rfl ?_|refine Tl ?_|refine sE rfl ?_|refine dG (by kernel_rfl) ?_|fail);(conv=>whnf)))
              refine grd2 rfl rfl hc19 (fun hc19 => ?_)
              ((conv=>whnf);repeat((first|refine Ta ?_|refine Tz mix ?_|refine Tc ?_|refine Tb ?_|refine Td rfl ?_|refine Tl ?_|refine sE rfl ?_|refine dG (by kernel_rfl) ?_|fail);(conv=>whnf)))
              obtain ⟨p22, hc19⟩ := grdO hc19
              refine ⟨[], 1, (.ints .i32 [((p_t.f_Rows.getD (y9.toNat) d_api_Row).f_To.getD 1 0)]), ⟨by simp [Row.len] <;> omega, rfl, _, rfl, by simp [Row.len] <;> omega, fun j hj => .inl rfl⟩, trivial, fun j hj => rfl, ?_⟩
              conv => whnf
              refine ⟨by simp [Row.len]; try omega, p22, by omega, ?_⟩
              ((conv=>whnf);repeat((first|refine Ta ?_|refine Tz mix ?_|refine Tc ?_|refine Tb ?_|refine Td rfl ?_|refine Tl ?_|refine sE rfl ?_|refine dG (by kernel_rfl) ?_|fail);(conv=>whnf)))
              refine grd2 rfl rfl hc19 (fun hc19 => ?_)
              have e := Option.some.inj hc19; subst e
              ((conv=>whnf);repeat((first|refine Ta ?_|refine Tz mix ?_|refine Tc ?_|refine Tb ?_|refine Td rfl ?_|refine Tl ?_|refine sE rfl ?_|refine dG (by kernel_rfl) ?_|fail);(conv=>whnf)))
              exact hn8 _ (((p_t.f_Rows.getD (y9.toNat) d_api_Row).f_To.getD 0 0), (s6.2.1 ++ [((p_t.f_Rows.getD (y9.toNat) d_api_Row).f_To.getD 1 0)]), (IntKind.wrap .i64 (s6.2.2 + (1 : Int)))) hs8 (weak_gen [0, 3] rfl rfl (storeLe.cons rfl (objLe.mk id id (rowLe_vals (valsLe.cons (cellsLe_refl rfl) valsLe.nil))) (storeLe.cons rfl (objLe.mk id id (rowLe_ints (by first | rfl | simp))) storeLe.nil)) (slotsLe.cons (And.intro rfl (AV.Le.refl _)) (slotsLe.cons (And.intro rfl (AV.Le.refl _)) (slotsLe.cons (And.intro rfl (AV.Le.of_eq (congrArg (AV.ms _) (by first | rfl | omega | (simp; omega) | simp)))) (slotsLe.cons (And.intro rfl (AV.Le.refl _)) slotsLe.nil)))))
            · ((conv=>whnf);repeat((first|refine Ta ?_|refine Tz mix ?_|refine Tc ?_|refine Tb ?_|refine Td rfl ?_|refine Tl ?_|refine sE rfl ?_|refine dG (by kernel_rfl) ?_|fail);(conv=>whnf)))
              refine grd2 rfl rfl hc19 (fun hc19 => ?_)
              have e := Option.some.inj hc19; subst e
              ((conv=>whnf);repeat((first|refine Ta ?_|refine Tz mix ?_|refine Tc ?_|refine Tb ?_|refine Td rfl ?_|refine Tl ?_|refine sE rfl ?_|refine dG (by kernel_rfl) ?_|fail);(conv=>whnf)))
              exact hn8 _ (((p_t.f_Rows.getD (y9.toNat) d_api_Row).f_To.getD 0 0), s6.2.1, (IntKind.wrap .i64 (s6.2.2 + (1 : Int)))) hs8 (weak_gen [0, 1] rfl rfl (storeLe.cons rfl (objLe.mk id id (rowLe_vals (valsLe.cons (cellsLe_refl rfl) valsLe.nil))) (storeLe.cons rfl (objLe.mk id id (rowLe_ints (by first | rfl | simp))) storeLe.nil)) (slotsLe.cons (And.intro rfl (AV.Le.refl _)) (slotsLe.cons (And.intro rfl (AV.Le.refl _)) (slotsLe.cons (And.intro rfl (AV.Le.of_eq (congrArg (AV.ms _) (by first | rfl | omega | (simp; omega) | simp)))) (slotsLe.cons (And.intro rfl (AV.Le.refl _)) slotsLe.nil)))))
      · have e := Option.some.inj h8_; subst e
        have e := done_out hs8; subst e
        ((conv=>whnf);repeat((first|refine Ta ?_|refine Tz mix ?_|refine Tc ?_|refine Tb ?_|refine Td rfl ?_|refine Tl ?_|refine sE rfl ?_|refine dG (by kernel_rfl) ?_|fail);(conv=>whnf)))
        exact hn15 _ (s6.1, s6.2.1) h (weak_gen [1] rfl rfl (storeLe.cons rfl (objLe.mk id id (rowLe_ints (by first | rfl | simp))) storeLe.nil) (slotsLe.cons (And.intro rfl (AV.Le.refl _)) (slotsLe.cons (And.intro rfl (AV.Le.of_eq (congrArg (AV.ms _) (by first | rfl | omega | (simp; omega) | simp)))) slotsLe.nil)))
    · clear h h15
      intro s2 hc23
      ((conv=>whnf);repeat((first|refine Ta ?_|refine Tz mix ?_|refine Tc ?_|refine Tb ?_|refine Td rfl ?_|refine Tl ?_|refine sE rfl ?_|refine dG (by kernel_rfl) ?_|fail);(conv=>whnf)))
      refine bnd hc23 (fun y4 hy4 hc23 => ?_)
      refine Or.inr (own_intro (own_call [0] (c_slices_Reverse_rune_rune_own _ _ hy4) rfl (storeLe.cons rfl (objLe.mk id id (rowLe_ints (by first | rfl | simp))) storeLe.nil) (cellsLe.cons (And.intro rfl (AV.Le.of_eq (congrArg (AV.ms _) (by first | rfl | omega | (simp; omega) | simp)))) cellsLe.nil) rfl) ?_)
      ((conv=>whnf);repeat((first|refine Ta ?_|refine Tz mix ?_|refine Tc ?_|refine Tb ?_|refine Td rfl ?_|refine Tl ?_|refine sE rfl ?_|refine dG (by kernel_rfl) ?_|fail);(conv=>whnf)))
      obtain ⟨p24, hc23⟩ := grdO hc23
      ((conv=>whnf);repeat((first|refine Ta ?_|refine Tz mix ?_|refine Tc ?_|refine Tb ?_|refine Td rfl ?_|refine Tl ?_|refine sE rfl ?_|refine dG (by kernel_rfl) ?_|fail);(conv=>whnf)))
      obtain ⟨p25, hc23⟩ := grdO hc23
      refine ⟨[], s2.2.length, (.ints .i32 y4), ⟨by simp [Row.len] <;> omega, rfl, _, rfl, by simp [Row.len] <;> omega, fun j hj => .inl rfl⟩, trivial, fun j hj => rfl, ?_⟩
      conv => whnf
      refine ⟨by simp [Row.len]; try omega, p25, by omega, ?_⟩
      have e := Option.some.inj hc23; subst e
      ((conv=>whnf);repeat((first|refine Ta ?_|refine Tz mix ?_|refine Tc ?_|refine Tb ?_|refine Td rfl ?_|refine Tl ?_|refine sE rfl ?_|refine dG (by kernel_rfl) ?_|fail);(conv=>whnf)))
      exact And.intro (AV.Le.list (by simp; try omega) (fun j hj => by first | rfl | rw [getD_sub hj] | (rw [getD_take hj]; simp) | simp)) rfl
theorem c_eponymlaw01_Same (p_a : (List Int)) (p_b : (List Int)) (r : Bool) (h : m_eponymlaw01_Same p_a p_b = some r) : Contract pl 32 [(e_L_i32 p_a), (e_L_i32 p_b)] [] (AV.bool r) [] := by
  refine contract_of (.t false .z (.t false .z (.t true .z .z))) Tryd.func32 rfl (by kernel_rfl) ?_
  ((conv=>whnf);repeat((first|refine Ta ?_|refine Tz mix ?_|refine Tc ?_|refine Tb ?_|refine Td rfl ?_|refine Tl ?_|refine sE rfl ?_|refine dG (by kernel_rfl) ?_|fail);(conv=>whnf)))
  refine br_b rfl h (fun c10 h => ?_) (fun c10 h => ?_)
  · have e := Option.some.inj h; subst e
    ((conv=>whnf);repeat((first|refine Ta ?_|refine Tz mix ?_|refine Tc ?_|refine Tb ?_|refine Td rfl ?_|refine Tl ?_|refine sE rfl ?_|refine dG (by kernel_rfl) ?_|fail);(conv=>whnf)))
    exact And.intro (AV.Le.refl _) rfl
  · ((conv=>whnf);repeat((first|refine Ta ?_|refine Tz mix ?_|refine Tc ?_|refine Tb ?_|refine Td rfl ?_|refine Tl ?_|refine sE rfl ?_|refine dG (by kernel_rfl) ?_|fail);(conv=>whnf)))
    refine bnd h (fun x11 h11 h => ?_)
    refine cut_at (fun s1 : Unit => mkF 26 [] []) (fun s1 : Unit => some true = some r) ?_ ?_
    · intro Kn11 hn11
      ((conv=>whnf);repeat((first|refine Ta ?_|refine Tz mix ?_|refine Tc ?_|refine Tb ?_|refine Td rfl ?_|refine Tl ?_|refine sE rfl ?_|refine dG (by kernel_rfl) ?_|fail);(conv=>whnf)))
      refine loop_iter (fun s4 : Int => mkF 26 [(0, (e_L_i32 p_a)), (1, (e_L_i32 p_b)), (5, (.int .i64 s4))] []) h11 (weak_gen [] rfl rfl storeLe.nil (slotsLe.cons (And.intro rfl (AV.Le.refl _)) (slotsLe.cons (And.intro rfl (AV.Le.refl _)) (slotsLe.cons (And.intro rfl (AV.Le.refl _)) slotsLe.nil)))) ?_
      intro k6 s4 st6 Kn6 hn6 h6_ hs6
      ((conv=>whnf);repeat((first|refine Ta ?_|refine Tz mix ?_|refine Tc ?_|refine Tb ?_|refine Td rfl ?_|refine Tl ?_|refine sE rfl ?_|refine dG (by kernel_rfl) ?_|fail);(conv=>whnf)))
      refine br_b rfl h6_ (fun c12 h6_ => ?_) (fun c12 h6_ => ?_)
      · ((conv=>whnf);repeat((first|refine Ta ?_|refine Tz mix ?_|refine Tc ?_|refine Tb ?_|refine Td rfl ?_|refine Tl ?_|refine sE rfl ?_|refine dG (by kernel_rfl) ?_|fail);(conv=>whnf)))
        refine grd2 rfl rfl h6_ (fun h6_ => ?_)
        ((conv=>whnf);repeat((first|refine Ta ?_|refine Tz mix ?_|refine Tc ?_|refine Tb ?_|refine Td rfl ?_|refine Tl ?_|refine sE rfl ?_|refine dG (by kernel_rfl) ?_|fail);(conv=>whnf)))
        refine grd2 rfl rfl h6_ (fun h6_ => ?_)
        ((conv=>whnf);repeat((first|refine Ta ?_|refine Tz mix ?_|refine Tc ?_|refine Tb ?_|refine Td rfl ?_|refine Tl ?_|refine sE rfl ?_|refine dG (by kernel_rfl) ?_|fail);(conv=>whnf)))
        refine br_b rfl h6_ (fun c13 h6_ => ?_) (fun c13 h6_ => ?_)
        · have e := Option.some.inj h6_; subst e
          have e := done_out hs6; subst e
          have e := Option.some.inj h; subst e
          ((conv=>whnf);repeat((first|refine Ta ?_|refine Tz mix ?_|refine Tc ?_|refine Tb ?_|refine Td rfl ?_|refine Tl ?_|refine sE rfl ?_|refine dG (by kernel_rfl) ?_|fail);(conv=>whnf)))
          exact And.intro (AV.Le.refl _) rfl
        · have e := Option.some.inj h6_; subst e
          ((conv=>whnf);repeat((first|refine Ta ?_|refine Tz mix ?_|refine Tc ?_|refine Tb ?_|refine Td rfl ?_|refine Tl ?_|refine sE rfl ?_|refine dG (by kernel_rfl) ?_|fail);(conv=>whnf)))
          exact hn6 _ (IntKind.wrap .i64 (s4 + (1 : Int))) hs6 (weak_gen [] rfl rfl storeLe.nil (slotsLe.cons (And.intro rfl (AV.Le.refl _)) (slotsLe.cons (And.intro rfl (AV.Le.refl _)) (slotsLe.cons (And.intro rfl (AV.Le.refl _)) slotsLe.nil))))
      · have e := Option.some.inj h6_; subst e
        have e := done_out hs6; subst e
        ((conv=>whnf);repeat((first|refine Ta ?_|refine Tz mix ?_|refine Tc ?_|refine Tb ?_|refine Td rfl ?_|refine Tl ?_|refine sE rfl ?_|refine dG (by kernel_rfl) ?_|fail);(conv=>whnf)))
        exact hn11 _ () h (weak_gen [] rfl rfl storeLe.nil slotsLe.nil)
    · clear h h11
      intro s1 hc14
      have e := Option.some.inj hc14; subst e
      ((conv=>whnf);repeat((first|refine Ta ?_|refine Tz mix ?_|refine Tc ?_|refine Tb ?_|refine Td rfl ?_|refine Tl ?_|refine sE rfl ?_|refine dG (by kernel_rfl) ?_|fail);(conv=>whnf)))
      exact And.intro (AV.Le.refl _) rfl
theorem c_eponymlaw04_awake  (r : Bool) (h : m_eponymlaw04_awake  = some r) : Contract pl 29 [] [] (AV.bool r) [] := by
  refine contract_of .z Tryd.func29 rfl (by kernel_rfl) ?_
  ((conv=>whnf);repeat((first|refine Ta ?_|refine Tz mix ?_|refine Tc ?_|refine Tb ?_|refine Td rfl ?_|refine Tl ?_|refine sE rfl ?_|refine dG (by kernel_rfl) ?_|fail);(conv=>whnf)))
  refine bnd h (fun y1 hy1 h => ?_)
  refine Or.inl ⟨_, contract_le (c_decomp_Check _ _ hy1) (argsLe.cons (AV.Le.agg (argsLe.cons (AV.Le.lits (enc := fun x => (e_api_Row x)) d_api_Row rfl (litsLe.cons (argsLe.cons (AV.Le.refl _) (argsLe.cons (AV.Le.list (by simp; try omega) (fun j hj => by first | rfl | rw [getD_sub hj] | (rw [getD_take hj]; simp) | simp)) argsLe.nil)) rfl litsLe.nil)) (argsLe.cons (AV.Le.lits (enc := fun x => (e_api_Range x)) d_api_Range rfl (litsLe.cons (argsLe.cons (AV.Le.refl _) (argsLe.cons (AV.Le.refl _) (argsLe.cons (AV.Le.refl _) argsLe.nil))) rfl litsLe.nil)) (argsLe.cons (AV.Le.list rfl (fun j hj => absurd hj (Nat.not_lt_zero _))) argsLe.nil)))) argsLe.nil), rfl, ?_⟩
  ((conv=>whnf);repeat((first|refine Ta ?_|refine Tz mix ?_|refine Tc ?_|refine Tb ?_|refine Td rfl ?_|refine Tl ?_|refine sE rfl ?_|refine dG (by kernel_rfl) ?_|fail);(conv=>whnf)))
  refine br_b rfl h (fun c6 h => ?_) (fun c6 h => ?_)
  · ((conv=>whnf);repeat((first|refine Ta ?_|refine Tz mix ?_|refine Tc ?_|refine Tb ?_|refine Td rfl ?_|refine Tl ?_|refine sE rfl ?_|refine dG (by kernel_rfl) ?_|fail);(conv=>whnf)))
    refine bnd h (fun y2 hy2 h => ?_)
    refine Or.inl ⟨_, contract_le (c_decomp_One _ _ _ hy2) (argsLe.cons (AV.Le.agg (argsLe.cons (AV.Le.lits (enc := fun x => (e_api_Row x)) d_api_Row rfl (litsLe.cons (argsLe.cons (AV.Le.refl _) (argsLe.cons (AV.Le.list (by simp; try omega) (fun j hj => by first | rfl | rw [getD_sub hj] | (rw [getD_take hj]; simp) | simp)) argsLe.nil)) rfl litsLe.nil)) (argsLe.cons (AV.Le.lits (enc := fun x => (e_api_Range x)) d_api_Range rfl (litsLe.cons (argsLe.cons (AV.Le.refl _) (argsLe.cons (AV.Le.refl _) (argsLe.cons (AV.Le.refl _) argsLe.nil))) rfl litsLe.nil)) (argsLe.cons (AV.Le.list rfl (fun j hj => absurd hj (Nat.not_lt_zero _))) argsLe.nil)))) (argsLe.cons (AV.Le.refl _) argsLe.nil)), rfl, ?_⟩
    ((conv=>whnf);repeat((first|refine Ta ?_|refine Tz mix ?_|refine Tc ?_|refine Tb ?_|refine Td rfl ?_|refine Tl ?_|refine sE rfl ?_|refine dG (by kernel_rfl) ?_|fail);(conv=>whnf)))
    refine bnd h (fun y3 hy3 h => ?_)
    refine Or.inl ⟨_, contract_le (c_eponymlaw01_Same _ _ _ hy3) (argsLe.cons (AV.Le.refl _) (argsLe.cons (AV.Le.list (by simp; try omega) (fun j hj => by first | rfl | rw [getD_sub hj] | (rw [getD_take hj]; simp) | simp)) argsLe.nil)), rfl, ?_⟩
    ((conv=>whnf);repeat((first|refine Ta ?_|refine Tz mix ?_|refine Tc ?_|refine Tb ?_|refine Td rfl ?_|refine Tl ?_|refine sE rfl ?_|refine dG (by kernel_rfl) ?_|fail);(conv=>whnf)))
    refine br_b rfl h (fun c7 h => ?_) (fun c7 h => ?_)
    · ((conv=>whnf);repeat((first|refine Ta ?_|refine Tz mix ?_|refine Tc ?_|refine Tb ?_|refine Td rfl ?_|refine Tl ?_|refine sE rfl ?_|refine dG (by kernel_rfl) ?_|fail);(conv=>whnf)))
      refine bnd h (fun y4 hy4 h => ?_)
      refine Or.inl ⟨_, contract_le (c_decomp_One _ _ _ hy4) (argsLe.cons (AV.Le.agg (argsLe.cons (AV.Le.lits (enc := fun x => (e_api_Row x)) d_api_Row rfl (litsLe.cons (argsLe.cons (AV.Le.refl _) (argsLe.cons (AV.Le.list (by simp; try omega) (fun j hj => by first | rfl | rw [getD_sub hj] | (rw [getD_take hj]; simp) | simp)) argsLe.nil)) rfl litsLe.nil)) (argsLe.cons (AV.Le.lits (enc := fun x => (e_api_Range x)) d_api_Range rfl (litsLe.cons (argsLe.cons (AV.Le.refl _) (argsLe.cons (AV.Le.refl _) (argsLe.cons (AV.Le.refl _) argsLe.nil))) rfl litsLe.nil)) (argsLe.cons (AV.Le.list rfl (fun j hj => absurd hj (Nat.not_lt_zero _))) argsLe.nil)))) (argsLe.cons (AV.Le.refl _) argsLe.nil)), rfl, ?_⟩
      ((conv=>whnf);repeat((first|refine Ta ?_|refine Tz mix ?_|refine Tc ?_|refine Tb ?_|refine Td rfl ?_|refine Tl ?_|refine sE rfl ?_|refine dG (by kernel_rfl) ?_|fail);(conv=>whnf)))
      refine bnd h (fun y5 hy5 h => ?_)
      refine Or.inl ⟨_, contract_le (c_eponymlaw01_Same _ _ _ hy5) (argsLe.cons (AV.Le.refl _) (argsLe.cons (AV.Le.list (by simp; try omega) (fun j hj => by first | rfl | rw [getD_sub hj] | (rw [getD_take hj]; simp) | simp)) argsLe.nil)), rfl, ?_⟩
      have e := Option.some.inj h; subst e
      ((conv=>whnf);repeat((first|refine Ta ?_|refine Tz mix ?_|refine Tc ?_|refine Tb ?_|refine Td rfl ?_|refine Tl ?_|refine sE rfl ?_|refine dG (by kernel_rfl) ?_|fail);(conv=>whnf)))
      exact And.intro (AV.Le.refl _) rfl
    · have e := Option.some.inj h; subst e
      ((conv=>whnf);repeat((first|refine Ta ?_|refine Tz mix ?_|refine Tc ?_|refine Tb ?_|refine Td rfl ?_|refine Tl ?_|refine sE rfl ?_|refine dG (by kernel_rfl) ?_|fail);(conv=>whnf)))
      exact And.intro (AV.Le.refl _) rfl
  · have e := Option.some.inj h; subst e
    ((conv=>whnf);repeat((first|refine Ta ?_|refine Tz mix ?_|refine Tc ?_|refine Tb ?_|refine Td rfl ?_|refine Tl ?_|refine sE rfl ?_|refine dG (by kernel_rfl) ?_|fail);(conv=>whnf)))
    exact And.intro (AV.Le.refl _) rfl
theorem c_eponymlaw04_Great (p_t : T_api_Norm) (r : Bool) (h : m_eponymlaw04_Great p_t = some r) : Contract pl 30 [(e_api_Norm p_t)] [] (AV.bool r) [] := by
  refine contract_of (.t false .z (.t false (.t true .z .z) (.t true .z .z))) Tryd.func30 rfl (by kernel_rfl) ?_
  ((conv=>whnf);repeat((first|refine Ta ?_|refine Tz mix ?_|refine Tc ?_|refine Tb ?_|refine Td rfl ?_|refine Tl ?_|refine sE rfl ?_|refine dG (by kernel_rfl) ?_|fail);(conv=>whnf)))
  refine bnd h (fun x12 h12 h => ?_)
  refine cut_at (fun s1 : Bool => mkF 35 [(1, (.mp 0 0 0)), (19, (.bool s1))] [some ⟨3, 40, (.vals [(e_api_Norm p_t)]), false, false⟩]) (fun s1 : Bool => m_eponymlaw04_Great_K2 p_t s1 = some r) ?_ ?_
  · intro Kn12 hn12
    ((conv=>whnf);repeat((first|refine Ta ?_|refine Tz mix ?_|refine Tc ?_|refine Tb ?_|refine Td rfl ?_|refine Tl ?_|refine sE rfl ?_|refine dG (by kernel_rfl) ?_|fail);(conv=>whnf)))
    refine br_b rfl h12 (fun c13 h12 => ?_) (fun c13 h12 => ?_)
    · have e := Option.some.inj h12; subst e
      ((conv=>whnf);repeat((first|refine Ta ?_|refine Tz mix ?_|refine Tc ?_|refine Tb ?_|refine Td rfl ?_|refine Tl ?_|refine sE rfl ?_|refine dG (by kernel_rfl) ?_|fail);(conv=>whnf)))
      exact hn12 _ true h (weak_gen [0] rfl rfl (storeLe.cons rfl (objLe.mk id id (rowLe_vals (valsLe.cons (cellsLe_refl rfl) valsLe.nil))) storeLe.nil) (slotsLe.cons (And.intro rfl (AV.Le.refl _)) (slotsLe.cons (And.intro rfl (AV.Le.refl _)) slotsLe.nil)))
    · ((conv=>whnf);repeat((first|refine Ta ?_|refine Tz mix ?_|refine Tc ?_|refine Tb ?_|refine Td rfl ?_|refine Tl ?_|refine sE rfl ?_|refine dG (by kernel_rfl) ?_|fail);(conv=>whnf)))
      refine br_b rfl h12 (fun c14 h12 => ?_) (fun c14 h12 => ?_)
      · have e := Option.some.inj h12; subst e
        ((conv=>whnf);repeat((first|refine Ta ?_|refine Tz mix ?_|refine Tc ?_|refine Tb ?_|refine Td rfl ?_|refine Tl ?_|refine sE rfl ?_|refine dG (by kernel_rfl) ?_|fail);(conv=>whnf)))
        exact hn12 _ true h (weak_gen [0] rfl rfl (storeLe.cons rfl (objLe.mk id id (rowLe_vals (valsLe.cons (cellsLe_refl rfl) valsLe.nil))) storeLe.nil) (slotsLe.cons (And.intro rfl (AV.Le.refl _)) (slotsLe.cons (And.intro rfl (AV.Le.refl _)) slotsLe.nil)))
      · have e := Option.some.inj h12; subst e
        ((conv=>whnf);repeat((first|refine Ta ?_|refine Tz mix ?_|refine Tc ?_|refine Tb ?_|refine Td rfl ?_|refine Tl ?_|refine sE rfl ?_|refine dG (by kernel_rfl) ?_|fail);(conv=>whnf)))
        exact hn12 _ (decide (((p_t.f_Excluded.length : Nat) : Int) > (40 : Int))) h (weak_gen [0] rfl rfl (storeLe.cons rfl (objLe.mk id id (rowLe_vals (valsLe.cons (cellsLe_refl rfl) valsLe.nil))) storeLe.nil) (slotsLe.cons (And.intro rfl (AV.Le.refl _)) (slotsLe.cons (And.intro rfl (AV.Le.refl _)) slotsLe.nil)))
  · clear h h12
    intro s1 hc15
    ((conv=>whnf);repeat((first|refine Ta ?_|refine Tz mix ?_|refine Tc ?_|refine Tb ?_|refine Td rfl ?_|refine Tl ?_|refine sE rfl ?_|refine dG (by kernel_rfl) ?_|fail);(conv=>whnf)))
    refine br_b rfl hc15 (fun c16 hc15 => ?_) (fun c16 hc15 => ?_)
    · have e := Option.some.inj hc15; subst e
      ((conv=>whnf);repeat((first|refine Ta ?_|refine Tz mix ?_|refine Tc ?_|refine Tb ?_|refine Td rfl ?_|refine Tl ?_|refine sE rfl ?_|refine dG (by kernel_rfl) ?_|fail);(conv=>whnf)))
      exact And.intro (AV.Le.refl _) rfl
    · ((conv=>whnf);repeat((first|refine Ta ?_|refine Tz mix ?_|refine Tc ?_|refine Tb ?_|refine Td rfl ?_|refine Tl ?_|refine sE rfl ?_|refine dG (by kernel_rfl) ?_|fail);(conv=>whnf)))
      refine bnd hc15 (fun x17 h17 hc15 => ?_)
      refine cut_at (fun s3 : Unit => mkF 35 [] []) (fun s3 : Unit => some false = some r) ?_ ?_
      · intro Kn17 hn17
        ((conv=>whnf);repeat((first|refine Ta ?_|refine Tz mix ?_|refine Tc ?_|refine Tb ?_|refine Td rfl ?_|refine Tl ?_|refine sE rfl ?_|refine dG (by kernel_rfl) ?_|fail);(conv=>whnf)))
        refine loop_iter (fun s6 : Int => mkF 35 [(1, (.mp 0 0 0)), (3, (.int .i64 s6))] [some ⟨3, 40, (.vals [(e_api_Norm p_t)]), false, false⟩]) h17 (weak_gen [0] rfl rfl (storeLe.cons rfl (objLe.mk id id (rowLe_vals (valsLe.cons (cellsLe_refl rfl) valsLe.nil))) storeLe.nil) (slotsLe.cons (And.intro rfl (AV.Le.refl _)) (slotsLe.cons (And.intro rfl (AV.Le.refl _)) slotsLe.nil))) ?_
        intro k8 s6 st8 Kn8 hn8 h8_ hs8
        ((conv=>whnf);repeat((first|refine Ta ?_|refine Tz mix ?_|refine Tc ?_|refine Tb ?_|refine Td rfl ?_|refine Tl ?_|refine sE rfl ?_|refine dG (by kernel_rfl) ?_|fail);(conv=>whnf)))
        refine br_b rfl h8_ (fun c18 h8_ => ?_) (fun c18 h8_ => ?_)
        · ((conv=>whnf);repeat((first|refine Ta ?_|refine Tz mix ?_|refine Tc ?_|refine Tb ?_|refine Td rfl ?_|refine Tl ?_|refine sE rfl ?_|refine dG (by kernel_rfl) ?_|fail);(conv=>whnf)))
          refine grd2 rfl rfl h8_ (fun h8_ => ?_)
          ((conv=>whnf);repeat((first|refine Ta ?_|refine Tz mix ?_|refine Tc ?_|refine Tb ?_|refine Td rfl ?_|refine Tl ?_|refine sE rfl ?_|refine dG (by kernel_rfl) ?_|fail);(conv=>whnf)))
          refine br_b rfl h8_ (fun c19 h8_ => ?_) (fun c19 h8_ => ?_)
          · have e := Option.some.inj h8_; subst e
            have e := done_out hs8; subst e
            have e := Option.some.inj hc15; subst e
            ((conv=>whnf);repeat((first|refine Ta ?_|refine Tz mix ?_|refine Tc ?_|refine Tb ?_|refine Td rfl ?_|refine Tl ?_|refine sE rfl ?_|refine dG (by kernel_rfl) ?_|fail);(conv=>whnf)))
            exact And.intro (AV.Le.refl _) rfl
          · have e := Option.some.inj h8_; subst e
            ((conv=>whnf);repeat((first|refine Ta ?_|refine Tz mix ?_|refine Tc ?_|refine Tb ?_|refine Td rfl ?_|refine Tl ?_|refine sE rfl ?_|refine dG (by kernel_rfl) ?_|fail);(conv=>whnf)))
            exact hn8 _ (IntKind.wrap .i64 (s6 + (1 : Int))) hs8 (weak_gen [0] rfl rfl (storeLe.cons rfl (objLe.mk id id (rowLe_vals (valsLe.cons (cellsLe_refl rfl) valsLe.nil))) storeLe.nil) (slotsLe.cons (And.intro rfl (AV.Le.refl _)) (slotsLe.cons (And.intro rfl (AV.Le.refl _)) slotsLe.nil)))
        · have e := Option.some.inj h8_; subst e
          have e := done_out hs8; subst e
          ((conv=>whnf);repeat((first|refine Ta ?_|refine Tz mix ?_|refine Tc ?_|refine Tb ?_|refine Td rfl ?_|refine Tl ?_|refine sE rfl ?_|refine dG (by kernel_rfl) ?_|fail);(conv=>whnf)))
          exact hn17 _ () hc15 (weak_gen [] rfl rfl storeLe.nil slotsLe.nil)
      · clear hc15 h17
        intro s3 hc20
        have e := Option.some.inj hc20; subst e
        ((conv=>whnf);repeat((first|refine Ta ?_|refine Tz mix ?_|refine Tc ?_|refine Tb ?_|refine Td rfl ?_|refine Tl ?_|refine sE rfl ?_|refine dG (by kernel_rfl) ?_|fail);(conv=>whnf)))
        exact And.intro (AV.Le.refl _) rfl
theorem c_slices_Clone_rune_rune_own_som (p_s : (List Int)) (r : (List Int)) (h : m_slices_Clone_rune_rune_own_som p_s = some r) : ContractM 0 pl 117 [(.sl (some false) p_s.length fun j => (AV.int .i32 (p_s.getD j 0)))] [] (.ms 0 r.length) [some ⟨1, 21, (.ints .i32 r), false, true⟩] := by
  refine contract_own 0 .z rfl Tryd.func117 rfl (by kernel_rfl) ?_
  ((conv=>whnf);repeat((first|refine Ta ?_|refine Tz mix ?_|refine Tc ?_|refine Tb ?_|refine Td rfl ?_|refine Tl ?_|refine sE rfl ?_|refine dG (by kernel_rfl) ?_|fail);(conv=>whnf)))
  obtain ⟨p1, h⟩ := grdO h
  refine ⟨[], p_s.length, (.ints .i32 p_s), ⟨rfl, rfl, fun j hj => rfl⟩, trivial, fun j hj => rfl, ?_⟩
  conv => whnf
  refine ⟨by simp [Row.len]; try omega, p1, by omega, ?_⟩
  have e := Option.some.inj h; subst e
  ((conv=>whnf);repeat((first|refine Ta ?_|refine Tz mix ?_|refine Tc ?_|refine Tb ?_|refine Td rfl ?_|refine Tl ?_|refine sE rfl ?_|refine dG (by kernel_rfl) ?_|fail);(conv=>whnf)))
  exact Or.inr (Or.inr (weak_gen [1] rfl rfl (storeLe.cons rfl (objLe.mk id (fun _ => rfl) (rowLe_ints (by first | rfl | simp))) storeLe.nil) (slotsLe.cons (And.intro rfl (AV.Le.of_eq (congrArg (AV.ms _) (by first | rfl | omega | (simp; omega) | simp)))) slotsLe.nil)))
theorem c_slices_Clone_rune_rune_own_nil  (r : (List Int)) (h : m_slices_Clone_rune_rune_own_nil  = some r) : ContractM 0 pl 117 [(.sl (some true) 0 fun _ => .unk)] [] (.ms 0 r.length) [some ⟨1, 21, (.ints .i32 r), false, true⟩] := by
  refine contract_own 0 .z rfl Tryd.func117 rfl (by kernel_rfl) ?_
  have e := Option.some.inj h; subst e
  ((conv=>whnf);repeat((first|refine Ta ?_|refine Tz mix ?_|refine Tc ?_|refine Tb ?_|refine Td rfl ?_|refine Tl ?_|refine sE rfl ?_|refine dG (by kernel_rfl) ?_|fail);(conv=>whnf)))
  exact Or.inr (Or.inr (weak_trans (weak_nil 0 1 21 (.ints .i32 []) _ rfl rfl trivial (Nat.zero_le _)) (weak_gen [0] rfl rfl (storeLe.cons rfl (objLe.mk id id (rowLe_ints (by first | rfl | simp))) storeLe.nil) (slotsLe.cons (And.intro rfl (AV.Le.refl _)) slotsLe.nil))))
theorem c_slices_Clone_rune_rune_own (p_s : (List Int)) (r : (List Int)) (h : m_slices_Clone_rune_rune_own p_s = some r) : ContractM 0 pl 117 [(e_L_i32 p_s)] [] (.ms 0 r.length) [some ⟨1, 21, (.ints .i32 r), false, true⟩] := by
  refine contractM_nil (fun hn => ?_) (c_slices_Clone_rune_rune_own_som p_s r h)
  have hp : p_s = [] := List.eq_nil_of_length_eq_zero hn
  subst hp
  have e : r = [] := by simpa [m_slices_Clone_rune_rune_own, m_slices_Clone_rune_rune_own_som] using h.symm
  subst e
  exact c_slices_Clone_rune_rune_own_nil [] rfl
theorem c_decomp_Order_1 (p_a : Int) (p_b : Int) (p_a2 : T_api_Norm) (r : Int) (h : m_decomp_Order_1 p_a p_b p_a2 = some r) : Contract pl 119 [(AV.int .i32 p_a), (AV.int .i32 p_b), (AV.ip (e_api_Norm p_a2) 0)] [] (AV.int .i64 r) [] := by
  refine contract_of .z Tryd.func119 rfl (by kernel_rfl) ?_
  ((conv=>whnf);repeat((first|refine Ta ?_|refine Tz mix ?_|refine Tc ?_|refine Tb ?_|refine Td rfl ?_|refine Tl ?_|refine sE rfl ?_|refine dG (by kernel_rfl) ?_|fail);(conv=>whnf)))
  refine bnd h (fun y1 hy1 h => ?_)
  refine Or.inl ⟨_, c_decomp_Class _ _ _ hy1, rfl, ?_⟩
  ((conv=>whnf);repeat((first|refine Ta ?_|refine Tz mix ?_|refine Tc ?_|refine Tb ?_|refine Td rfl ?_|refine Tl ?_|refine sE rfl ?_|refine dG (by kernel_rfl) ?_|fail);(conv=>whnf)))
  refine bnd h (fun y2 hy2 h => ?_)
  refine Or.inl ⟨_, c_decomp_Class _ _ _ hy2, rfl, ?_⟩
  have e := Option.some.inj h; subst e
  ((conv=>whnf);repeat((first|refine Ta ?_|refine Tz mix ?_|refine Tc ?_|refine Tb ?_|refine Td rfl ?_|refine Tl ?_|refine sE rfl ?_|refine dG (by kernel_rfl) ?_|fail);(conv=>whnf)))
  exact And.intro (AV.Le.refl _) rfl
theorem c_slices_insertionSortCmpFunc_rune_own (p_data : (List Int)) (p_data_o : Nat) (p_data_n : Nat) (p_a : Int) (p_b : Int) (p_cmp_0 : T_api_Norm) (r : (List Int)) (h : m_slices_insertionSortCmpFunc_rune_own p_data p_data_o p_data_n p_a p_b p_cmp_0 = some r) : ContractM 2 pl 170 [(.mso 0 p_data_o p_data_n), (.int .i64 p_a), (.int .i64 p_b), (.fn (.func 119) [] [(.mp 1 0 0)])] [some ⟨1, 21, (.ints .i32 p_data), false, true⟩, some ⟨3, 40, (.vals [(e_api_Norm p_cmp_0)]), false, false⟩] (.tup []) [some ⟨1, 21, (.ints .i32 r), false, true⟩, some ⟨3, 40, (.vals [(e_api_Norm p_cmp_0)]), false, false⟩] := by
  refine contract_own 2 (.t false .z (.t false (.t false (.t false .z (.t true (.t false (.t false .z (.t false (.t false (.t false (.t true .z .z) .z) .z) .z)) .z) .z)) .z) .z)) rfl Tryd.func170 rfl (by kernel_rfl) ?_
  ((conv=>whnf);repeat((first|refine Ta ?_|refine Tz mix ?_|refine Tc ?_|refine Tb ?_|refine Td rfl ?_|refine Tl ?_|refine sE rfl ?_|refine dG (by kernel_rfl) ?_|fail);(conv=>whnf)))
  refine bnd h (fun x4 hx4 h => ?_)
  refine loop_iter (fun s2 : (List Int) × Int => mkF 53 [(0, (.mso 0 p_data_o p_data_n)), (1, (.int .i64 p_a)), (2, (.int .i64 p_b)), (3, (.fn (.func 119) [] [(.mp 1 0 0)])), (8, (.int .i64 s2.2))] [some ⟨1, 21, (.ints .i32 s2.1), false, true⟩, some ⟨3, 40, (.vals [(e_api_Norm p_cmp_0)]), false, false⟩]) hx4 (weak_gen [0, 1] rfl rfl (storeLe.cons rfl (objLe.mk id id (rowLe_ints (by first | rfl | simp))) (storeLe.cons rfl (objLe.mk id id (rowLe_vals (valsLe.cons (cellsLe_refl rfl) valsLe.nil))) storeLe.nil)) (slotsLe.cons (And.intro rfl (AV.Le.refl _)) (slotsLe.cons (And.intro rfl (AV.Le.refl _)) (slotsLe.cons (And.intro rfl (AV.Le.refl _)) (slotsLe.cons (And.intro rfl (AV.Le.refl _)) (slotsLe.cons (And.intro rfl (AV.Le.refl _)) slotsLe.nil)))))) ?_
  intro k4 s2 st4 Kn4 hn4 h4 hs4
  ((conv=>whnf);repeat((first|refine Ta ?_|refine Tz mix ?_|refine Tc ?_|refine Tb ?_|refine Td rfl ?_|refine Tl ?_|refine sE rfl ?_|refine dG (by kernel_rfl) ?_|fail);(conv=>whnf)))
  refine br_b rfl h4 (fun c16 h4 => ?_) (fun c16 h4 => ?_)
  · ((conv=>whnf);repeat((first|refine Ta ?_|refine Tz mix ?_|refine Tc ?_|refine Tb ?_|refine Td rfl ?_|refine Tl ?_|refine sE rfl ?_|refine dG (by kernel_rfl) ?_|fail);(conv=>whnf)))
    refine bnd h4 (fun x17 h17 h4 => ?_)
    refine cut_at (fun s5 : (List Int) => mkF 53 [(0, (.mso 0 p_data_o p_data_n)), (1, (.int .i64 p_a)), (2, (.int .i64 p_b)), (3, (.fn (.func 119) [] [(.mp 1 0 0)])), (8, (.int .i64 s2.2))] [some ⟨1, 21, (.ints .i32 s5), false, true⟩, some ⟨3, 40, (.vals [(e_api_Norm p_cmp_0)]), false, false⟩]) (fun s5 : (List Int) => some (.next (s5, (IntKind.wrap .i64 (s2.2 + (1 : Int))))) = some st4) ?_ ?_
    · intro Kn17 hn17
      ((conv=>whnf);repeat((first|refine Ta ?_|refine Tz mix ?_|refine Tc ?_|refine Tb ?_|refine Td rfl ?_|refine Tl ?_|refine sE rfl ?_|refine dG (by kernel_rfl) ?_|fail);(conv=>whnf)))
      refine loop_iter (fun s8 : (List Int) × Int => mkF 53 [(0, (.mso 0 p_data_o p_data_n)), (1, (.int .i64 p_a)), (2, (.int .i64 p_b)), (3, (.fn (.func 119) [] [(.mp 1 0 0)])), (8, (.int .i64 s2.2)), (9, (.int .i64 s8.2))] [some ⟨1, 21, (.ints .i32 s8.1), false, true⟩, some ⟨3, 40, (.vals [(e_api_Norm p_cmp_0)]), false, false⟩]) h17 (weak_gen [0, 1] rfl rfl (storeLe.cons rfl (objLe.mk id id (rowLe_ints (by first | rfl | simp))) (storeLe.cons rfl (objLe.mk id id (rowLe_vals (valsLe.cons (cellsLe_refl rfl) valsLe.nil))) storeLe.nil)) (slotsLe.cons (And.intro rfl (AV.Le.refl _)) (slotsLe.cons (And.intro rfl (AV.Le.refl _)) (slotsLe.cons (And.intro rfl (AV.Le.refl _)) (slotsLe.cons (And.intro rfl (AV.Le.refl _)) (slotsLe.cons (And.intro rfl (AV.Le.refl _)) (slotsLe.cons (And.intro rfl (AV.Le.refl _)) slotsLe.nil))))))) ?_
      intro k10 s8 st10 Kn10 hn10 h10_ hs10
      ((conv=>whnf);repeat((first|refine Ta ?_|refine Tz mix ?_|refine Tc ?_|refine Tb ?_|refine Td rfl ?_|refine Tl ?_|refine sE rfl ?_|refine dG (by kernel_rfl) ?_|fail);(conv=>whnf)))
      refine bnd h10_ (fun x18 h18 h10_ => ?_)
      refine cut_at (fun s11 : Bool => mkF 53 [(0, (.mso 0 p_data_o p_data_n)), (1, (.int .i64 p_a)), (2, (.int .i64 p_b)), (3, (.fn (.func 119) [] [(.mp 1 0 0)])), (8, (.int .i64 s2.2)), (9, (.int .i64 s8.2)), (34, (.bool s11))] [some ⟨1, 21, (.ints .i32 s8.1), false, true⟩, some ⟨3, 40, (.vals [(e_api_Norm p_cmp_0)]), false, false⟩]) (fun s11 : Bool => m_slices_insertionSortCmpFunc_rune_own_K12 p_data_o p_data_n s8 s11 = some st10) ?_ ?_
      · intro Kn18 hn18
        ((conv=>whnf);repeat((first|refine Ta ?_|refine Tz mix ?_|refine Tc ?_|refine Tb ?_|refine Td rfl ?_|refine Tl ?_|refine sE rfl ?_|refine dG (by kernel_rfl) ?_|fail);(conv=>whnf)))
        refine br_b rfl h18 (fun c19 h18 => ?_) (fun c19 h18 => ?_)
        · ((conv=>whnf);repeat((first|refine Ta ?_|refine Tz mix ?_|refine Tc ?_|refine Tb ?_|refine Td rfl ?_|refine Tl ?_|refine sE rfl ?_|refine dG (by kernel_rfl) ?_|fail);(conv=>whnf)))
          refine grd2 rfl rfl h18 (fun h18 => ?_)
          ((conv=>whnf);repeat((first|refine Ta ?_|refine Tz mix ?_|refine Tc ?_|refine Tb ?_|refine Td rfl ?_|refine Tl ?_|refine sE rfl ?_|refine dG (by kernel_rfl) ?_|fail);(conv=>whnf)))
          refine grd2 rfl rfl h18 (fun h18 => ?_)
          ((conv=>whnf);repeat((first|refine Ta ?_|refine Tz mix ?_|refine Tc ?_|refine Tb ?_|refine Td rfl ?_|refine Tl ?_|refine sE rfl ?_|refine dG (by kernel_rfl) ?_|fail);(conv=>whnf)))
          refine bnd h18 (fun y13 hy13 h18 => ?_)
          refine Or.inl ⟨_, c_decomp_Order_1 _ _ _ _ hy13, rfl, ?_⟩
          have e := Option.some.inj h18; subst e
          ((conv=>whnf);repeat((first|refine Ta ?_|refine Tz mix ?_|refine Tc ?_|refine Tb ?_|refine Td rfl ?_|refine Tl ?_|refine sE rfl ?_|refine dG (by kernel_rfl) ?_|fail);(conv=>whnf)))
          exact hn18 _ (decide (y13 < (0 : Int))) h10_ (weak_gen [0, 1] rfl rfl (storeLe.cons rfl (objLe.mk id id (by first | exact rowLe_same fun _ _ _ => rfl | (simp; exact rowLe_same fun _ _ _ => rfl))) (storeLe.cons rfl (objLe.mk id id (rowLe_vals (valsLe.cons (cellsLe_refl rfl) valsLe.nil))) storeLe.nil)) (slotsLe.cons (And.intro rfl (AV.Le.refl _)) (slotsLe.cons (And.intro rfl (AV.Le.refl _)) (slotsLe.cons (And.intro rfl (AV.Le.refl _)) (slotsLe.cons (And.intro rfl (AV.Le.refl _)) (slotsLe.cons (And.intro rfl (AV.Le.refl _)) (slotsLe.cons (And.intro rfl (AV.Le.refl _)) (slotsLe.cons (And.intro rfl (AV.Le.refl _)) slotsLe.nil))))))))
        · have e := Option.some.inj h18; subst e
          ((conv=>whnf);repeat((first|refine Ta ?_|refine Tz mix ?_|refine Tc ?_|refine Tb ?_|refine Td rfl ?_|refine Tl ?_|refine sE rfl ?_|refine dG (by kernel_rfl) ?_|fail);(conv=>whnf)))
          exact hn18 _ false h10_ (weak_gen [0, 1] rfl rfl (storeLe.cons rfl (objLe.mk id id (by first | exact rowLe_same fun _ _ _ => rfl | (simp; exact rowLe_same fun _ _ _ => rfl))) (storeLe.cons rfl (objLe.mk id id (rowLe_vals (valsLe.cons (cellsLe_refl rfl) valsLe.nil))) storeLe.nil)) (slotsLe.cons (And.intro rfl (AV.Le.refl _)) (slotsLe.cons (And.intro rfl (AV.Le.refl _)) (slotsLe.cons (And.intro rfl (AV.Le.refl _)) (slotsLe.cons (And.intro rfl (AV.Le.refl _)) (slotsLe.cons (And.intro rfl (AV.Le.refl _)) (slotsLe.cons (And.intro rfl (AV.Le.refl _)) (slotsLe.cons (And.intro rfl (AV.Le.refl _)) slotsLe.nil))))))))
      · clear h10_ h18
        intro s11 hc20
        ((conv=>whnf);repeat((first|refine Ta ?_|refine Tz mix ?_|refine Tc ?_|refine Tb ?_|refine Td rfl ?_|refine Tl ?_|refine sE rfl ?_|refine dG (by kernel_rfl) ?_|fail);(conv=>whnf)))
        refine br_b rfl hc20 (fun c21 hc20 => ?_) (fun c21 hc20 => ?_)
        · ((conv=>whnf);repeat((first|refine Ta ?_|refine Tz mix ?_|refine Tc ?_|refine Tb ?_|refine Td rfl ?_|refine Tl ?_|refine sE rfl ?_|refine dG (by kernel_rfl) ?_|fail);(conv=>whnf)))
          refine grd2 rfl rfl hc20 (fun hc20 => ?_)
          ((conv=>whnf);repeat((first|refine Ta ?_|refine Tz mix ?_|refine Tc ?_|refine Tb ?_|refine Td rfl ?_|refine Tl ?_|refine sE rfl ?_|refine dG (by kernel_rfl) ?_|fail);(conv=>whnf)))
          refine grd2 rfl rfl hc20 (fun hc20 => ?_)
          ((conv=>whnf);repeat((first|refine Ta ?_|refine Tz mix ?_|refine Tc ?_|refine Tb ?_|refine Td rfl ?_|refine Tl ?_|refine sE rfl ?_|refine dG (by kernel_rfl) ?_|fail);(conv=>whnf)))
          refine grd2 rfl rfl hc20 (fun hc20 => ?_)
          ((conv=>whnf);repeat((first|refine Ta ?_|refine Tz mix ?_|refine Tc ?_|refine Tb ?_|refine Td rfl ?_|refine Tl ?_|refine sE rfl ?_|refine dG (by kernel_rfl) ?_|fail);(conv=>whnf)))
          refine grd2 rfl rfl hc20 (fun hc20 => ?_)
          have e := Option.some.inj hc20; subst e
          ((conv=>whnf);repeat((first|refine Ta ?_|refine Tz mix ?_|refine Tc ?_|refine Tb ?_|refine Td rfl ?_|refine Tl ?_|refine sE rfl ?_|refine dG (by kernel_rfl) ?_|fail);(conv=>whnf)))
          exact hn10 _ (((s8.1.set (p_data_o + (s8.2.toNat)) (s8.1.getD (p_data_o + ((IntKind.wrap .i64 (s8.2 - (1 : Int))).toNat)) 0)).set (p_data_o + ((IntKind.wrap .i64 (s8.2 - (1 : Int))).toNat)) (s8.1.getD (p_data_o + (s8.2.toNat)) 0)), (IntKind.wrap .i64 (s8.2 - (1 : Int)))) hs10 (weak_gen [0, 1] rfl rfl (storeLe.cons rfl (objLe.mk id id (rowLe_ints (by first | rfl | simp))) (storeLe.cons rfl (objLe.mk id id (rowLe_vals (valsLe.cons (cellsLe_refl rfl) valsLe.nil))) storeLe.nil)) (slotsLe.cons (And.intro rfl (AV.Le.refl _)) (slotsLe.cons (And.intro rfl (AV.Le.refl _)) (slotsLe.cons (And.intro rfl (AV.Le.refl _)) (slotsLe.cons (And.intro rfl (AV.Le.refl _)) (slotsLe.cons (And.intro rfl (AV.Le.refl _)) (slotsLe.cons (And.intro rfl (AV.Le.refl _)) slotsLe.nil)))))))
        · have e := Option.some.inj hc20; subst e
          have e := done_out hs10; subst e
          ((conv=>whnf);repeat((first|refine Ta ?_|refine Tz mix ?_|refine Tc ?_|refine Tb ?_|refine Td rfl ?_|refine Tl ?_|refine sE rfl ?_|refine dG (by kernel_rfl) ?_|fail);(conv=>whnf)))
          exact hn17 _ s8.1 h4 (weak_gen [0, 1] rfl rfl (storeLe.cons rfl (objLe.mk id id (rowLe_ints (by first | rfl | simp))) (storeLe.cons rfl (objLe.mk id id (rowLe_vals (valsLe.cons (cellsLe_refl rfl) valsLe.nil))) storeLe.nil)) (slotsLe.cons (And.intro rfl (AV.Le.refl _)) (slotsLe.cons (And.intro rfl (AV.Le.refl _)) (slotsLe.cons (And.intro rfl (AV.Le.refl _)) (slotsLe.cons (And.intro rfl (AV.Le.refl _)) (slotsLe.cons (And.intro rfl (AV.Le.refl _)) slotsLe.nil))))))
    · clear h4 h17
      intro s5 hc22
      have e := Option.some.inj hc22; subst e
      ((conv=>whnf);repeat((first|refine Ta ?_|refine Tz mix ?_|refine Tc ?_|refine Tb ?_|refine Td rfl ?_|refine Tl ?_|refine sE rfl ?_|refine dG (by kernel_rfl) ?_|fail);(conv=>whnf)))
      exact hn4 _ (s5, (IntKind.wrap .i64 (s2.2 + (1 : Int)))) hs4 (weak_gen [0, 1] rfl rfl (storeLe.cons rfl (objLe.mk id id (rowLe_ints (by first | rfl | simp))) (storeLe.cons rfl (objLe.mk id id (rowLe_vals (valsLe.cons (cellsLe_refl rfl) valsLe.nil))) storeLe.nil)) (slotsLe.cons (And.intro rfl (AV.Le.refl _)) (slotsLe.cons (And.intro rfl (AV.Le.refl _)) (slotsLe.cons (And.intro rfl (AV.Le.refl _)) (slotsLe.cons (And.intro rfl (AV.Le.refl _)) (slotsLe.cons (And.intro rfl (AV.Le.refl _)) slotsLe.nil))))))
  · have e := Option.some.inj h4; subst e
    have e := done_out hs4; subst e
    have e := Option.some.inj h; subst e
    ((conv=>whnf);repeat((first|refine Ta ?_|refine Tz mix ?_|refine Tc ?_|refine Tb ?_|refine Td rfl ?_|refine Tl ?_|refine sE rfl ?_|refine dG (by kernel_rfl) ?_|fail);(conv=>whnf)))
    exact Or.inr (Or.inr (weak_gen [0, 1] rfl rfl (storeLe.cons rfl (objLe.mk id id (rowLe_ints (by first | rfl | simp))) (storeLe.cons rfl (objLe.mk id id (rowLe_vals (valsLe.cons (cellsLe_refl rfl) valsLe.nil))) storeLe.nil)) (slotsLe.cons (And.intro rfl (AV.Le.refl _)) slotsLe.nil)))
theorem c_slices_swapRangeCmpFunc_rune_own (p_data : (List Int)) (p_data_o : Nat) (p_data_n : Nat) (p_a : Int) (p_b : Int) (p_n : Int) (p_cmp_0 : T_api_Norm) (r : (List Int)) (h : m_slices_swapRangeCmpFunc_rune_own p_data p_data_o p_data_n p_a p_b p_n p_cmp_0 = some r) : ContractM 2 pl 178 [(.mso 0 p_data_o p_data_n), (.int .i64 p_a), (.int .i64 p_b), (.int .i64 p_n), (.fn (.func 119) [] [(.mp 1 0 0)])] [some ⟨1, 21, (.ints .i32 p_data), false, true⟩, some ⟨3, 40, (.vals [(e_api_Norm p_cmp_0)]), false, false⟩] (.tup []) [some ⟨1, 21, (.ints .i32 r), false, true⟩, some ⟨3, 40, (.vals [(e_api_Norm p_cmp_0)]), false, false⟩] := by
  refine contract_own 2 .z rfl Tryd.func178 rfl (by kernel_rfl) ?_
  ((conv=>whnf);repeat((first|refine Ta ?_|refine Tz mix ?_|refine Tc ?_|refine Tb ?_|refine Td rfl ?_|refine Tl ?_|refine sE rfl ?_|refine dG (by kernel_rfl) ?_|fail);(conv=>whnf)))
  refine bnd h (fun x4 hx4 h => ?_)
  refine loop_iter (fun s2 : (List Int) × Int => mkF 38 [(0, (.mso 0 p_data_o p_data_n)), (1, (.int .i64 p_a)), (2, (.int .i64 p_b)), (3, (.int .i64 p_n)), (10, (.int .i64 s2.2))] [some ⟨1, 21, (.ints .i32 s2.1), false, true⟩, some ⟨3, 40, (.vals [(e_api_Norm p_cmp_0)]), false, false⟩]) hx4 (weak_gen [0, 1] rfl rfl (storeLe.cons rfl (objLe.mk id id (rowLe_ints (by first | rfl | simp))) (storeLe.cons rfl (objLe.mk id id (rowLe_vals (valsLe.cons (cellsLe_refl rfl) valsLe.nil))) storeLe.nil)) (slotsLe.cons (And.intro rfl (AV.Le.refl _)) (slotsLe.cons (And.intro rfl (AV.Le.refl _)) (slotsLe.cons (And.intro rfl (AV.Le.refl _)) (slotsLe.cons (And.intro rfl (AV.Le.refl _)) (slotsLe.cons (And.intro rfl (AV.Le.refl _)) slotsLe.nil)))))) ?_
  intro k4 s2 st4 Kn4 hn4 h4 hs4
  ((conv=>whnf);repeat((first|refine Ta ?_|refine Tz mix ?_|refine Tc ?_|refine Tb ?_|refine Td rfl ?_|refine Tl ?_|refine sE rfl ?_|refine dG (by kernel_rfl) ?_|fail);(conv=>whnf)))
  refine br_b rfl h4 (fun c6 h4 => ?_) (fun c6 h4 => ?_)
  · ((conv=>whnf);repeat((first|refine Ta ?_|refine Tz mix ?_|refine Tc ?_|refine Tb ?_|refine Td rfl ?_|refine Tl ?_|refine sE rfl ?_|refine dG (by kernel_rfl) ?_|fail);(conv=>whnf)))
    refine grd2 rfl rfl h4 (fun h4 => ?_)
    ((conv=>whnf);repeat((first|refine Ta ?_|refine Tz mix ?_|refine Tc ?_|refine Tb ?_|refine Td rfl ?_|refine Tl ?_|refine sE rfl ?_|refine dG (by kernel_rfl) ?_|fail);(conv=>whnf)))
    refine grd2 rfl rfl h4 (fun h4 => ?_)
    ((conv=>whnf);repeat((first|refine Ta ?_|refine Tz mix ?_|refine Tc ?_|refine Tb ?_|refine Td rfl ?_|refine Tl ?_|refine sE rfl ?_|refine dG (by kernel_rfl) ?_|fail);(conv=>whnf)))
    refine grd2 rfl rfl h4 (fun h4 => ?_)
    ((conv=>whnf);repeat((first|refine Ta ?_|refine Tz mix ?_|refine Tc ?_|refine Tb ?_|refine Td rfl ?_|refine Tl ?_|refine sE rfl ?_|refine dG (by kernel_rfl) ?_|fail);(conv=>whnf)))
    refine grd2 rfl rfl h4 (fun h4 => ?_)
    have e := Option.some.inj h4; subst e
    ((conv=>whnf);repeat((first|refine Ta ?_|refine Tz mix ?_|refine Tc ?_|refine Tb ?_|refine Td rfl ?_|refine Tl ?_|refine sE rfl ?_|refine dG (by kernel_rfl) ?_|fail);(conv=>whnf)))
    exact hn4 _ (((s2.1.set (p_data_o + ((IntKind.wrap .i64 (p_a + s2.2)).toNat)) (s2.1.getD (p_data_o + ((IntKind.wrap .i64 (p_b + s2.2)).toNat)) 0)).set (p_data_o + ((IntKind.wrap .i64 (p_b + s2.2)).toNat)) (s2.1.getD (p_data_o + ((IntKind.wrap .i64 (p_a + s2.2)).toNat)) 0)), (IntKind.wrap .i64 (s2.2 + (1 : Int)))) hs4 (weak_gen [0, 1] rfl rfl (storeLe.cons rfl (objLe.mk id id (rowLe_ints (by first | rfl | simp))) (storeLe.cons rfl (objLe.mk id id (rowLe_vals (valsLe.cons (cellsLe_refl rfl) valsLe.nil))) storeLe.nil)) (slotsLe.cons (And.intro rfl (AV.Le.refl _)) (slotsLe.cons (And.intro rfl (AV.Le.refl _)) (slotsLe.cons (And.intro rfl (AV.Le.refl _)) (slotsLe.cons (And.intro rfl (AV.Le.refl _)) (slotsLe.cons (And.intro rfl (AV.Le.refl _)) slotsLe.nil))))))
  · have e := Option.some.inj h4; subst e
    have e := done_out hs4; subst e
    have e := Option.some.inj h; subst e
    ((conv=>whnf);repeat((first|refine Ta ?_|refine Tz mix ?_|refine Tc ?_|refine Tb ?_|refine Td rfl ?_|refine Tl ?_|refine sE rfl ?_|refine dG (by kernel_rfl) ?_|fail);(conv=>whnf)))
    exact Or.inr (Or.inr (weak_gen [0, 1] rfl rfl (storeLe.cons rfl (objLe.mk id id (rowLe_ints (by first | rfl | simp))) (storeLe.cons rfl (objLe.mk id id (rowLe_vals (valsLe.cons (cellsLe_refl rfl) valsLe.nil))) storeLe.nil)) (slotsLe.cons (And.intro rfl (AV.Le.refl _)) slotsLe.nil)))
theorem c_slices_rotateCmpFunc_rune_own (p_data : (List Int)) (p_data_o : Nat) (p_data_n : Nat) (p_a : Int) (p_m : Int) (p_b : Int) (p_cmp_0 : T_api_Norm) (r : (List Int)) (h : m_slices_rotateCmpFunc_rune_own p_data p_data_o p_data_n p_a p_m p_b p_cmp_0 = some r) : ContractM 2 pl 176 [(.mso 0 p_data_o p_data_n), (.int .i64 p_a), (.int .i64 p_m), (.int .i64 p_b), (.fn (.func 119) [] [(.mp 1 0 0)])] [some ⟨1, 21, (.ints .i32 p_data), false, true⟩, some ⟨3, 40, (.vals [(e_api_Norm p_cmp_0)]), false, false⟩] (.tup []) [some ⟨1, 21, (.ints .i32 r), false, true⟩, some ⟨3, 40, (.vals [(e_api_Norm p_cmp_0)]), false, false⟩] := by
  refine contract_own 2 (.t false .z (.t false .z (.t true .z .z))) rfl Tryd.func176 rfl (by kernel_rfl) ?_
  ((conv=>whnf);repeat((first|refine Ta ?_|refine Tz mix ?_|refine Tc ?_|refine Tb ?_|refine Td rfl ?_|refine Tl ?_|refine sE rfl ?_|refine dG (by kernel_rfl) ?_|fail);(conv=>whnf)))
  refine bnd h (fun x11 h11 h => ?_)
  refine cut_at (fun s1 : (List Int) × Int => mkF 58 [(0, (.mso 0 p_data_o p_data_n)), (2, (.int .i64 p_m)), (4, (.fn (.func 119) [] [(.mp 1 0 0)])), (10, (.int .i64 s1.2))] [some ⟨1, 21, (.ints .i32 s1.1), false, true⟩, some ⟨3, 40, (.vals [(e_api_Norm p_cmp_0)]), false, false⟩]) (fun s1 : (List Int) × Int => m_slices_rotateCmpFunc_rune_own_K2 p_data_o p_data_n p_m p_cmp_0 s1 = some r) ?_ ?_
  · intro Kn11 hn11
    ((conv=>whnf);repeat((first|refine Ta ?_|refine Tz mix ?_|refine Tc ?_|refine Tb ?_|refine Td rfl ?_|refine Tl ?_|refine sE rfl ?_|refine dG (by kernel_rfl) ?_|fail);(conv=>whnf)))
    refine loop_iter (fun s5 : (List Int) × Int × Int => mkF 58 [(0, (.mso 0 p_data_o p_data_n)), (2, (.int .i64 p_m)), (4, (.fn (.func 119) [] [(.mp 1 0 0)])), (10, (.int .i64 s5.2.1)), (11, (.int .i64 s5.2.2))] [some ⟨1, 21, (.ints .i32 s5.1), false, true⟩, some ⟨3, 40, (.vals [(e_api_Norm p_cmp_0)]), false, false⟩]) h11 (weak_gen [0, 1] rfl rfl (storeLe.cons rfl (objLe.mk id id (rowLe_ints (by first | rfl | simp))) (storeLe.cons rfl (objLe.mk id id (rowLe_vals (valsLe.cons (cellsLe_refl rfl) valsLe.nil))) storeLe.nil)) (slotsLe.cons (And.intro rfl (AV.Le.refl _)) (slotsLe.cons (And.intro rfl (AV.Le.refl _)) (slotsLe.cons (And.intro rfl (AV.Le.refl _)) (slotsLe.cons (And.intro rfl (AV.Le.refl _)) (slotsLe.cons (And.intro rfl (AV.Le.refl _)) slotsLe.nil)))))) ?_
    intro k7 s5 st7 Kn7 hn7 h7_ hs7
    ((conv=>whnf);repeat((first|refine Ta ?_|refine Tz mix ?_|refine Tc ?_|refine Tb ?_|refine Td rfl ?_|refine Tl ?_|refine sE rfl ?_|refine dG (by kernel_rfl) ?_|fail);(conv=>whnf)))
    refine br_b rfl h7_ (fun c12 h7_ => ?_) (fun c12 h7_ => ?_)
    · ((conv=>whnf);repeat((first|refine Ta ?_|refine Tz mix ?_|refine Tc ?_|refine Tb ?_|refine Td rfl ?_|refine Tl ?_|refine sE rfl ?_|refine dG (by kernel_rfl) ?_|fail);(conv=>whnf)))
      refine br_b rfl h7_ (fun c13 h7_ => ?_) (fun c13 h7_ => ?_)
      · ((conv=>whnf);repeat((first|refine Ta ?_|refine Tz mix ?_|refine Tc ?_|refine Tb ?_|refine Td rfl ?_|refine Tl ?_|refine sE rfl ?_|refine dG (by kernel_rfl) ?_|fail);(conv=>whnf)))
        refine bnd h7_ (fun y8 hy8 h7_ => ?_)
        refine own_intro (own_call [0, 1] (c_slices_swapRangeCmpFunc_rune_own _ _ _ _ _ _ _ _ hy8) rfl (storeLe.cons rfl (objLe.mk id id (rowLe_ints (by first | rfl | simp))) (storeLe.cons rfl (objLe.mk id id (rowLe_vals (valsLe.cons (cellsLe_refl rfl) valsLe.nil))) storeLe.nil)) (cellsLe.cons (And.intro rfl (AV.Le.refl _)) (cellsLe.cons (And.intro rfl (AV.Le.refl _)) (cellsLe.cons (And.intro rfl (AV.Le.refl _)) (cellsLe.cons (And.intro rfl (AV.Le.refl _)) (cellsLe.cons (And.intro rfl (AV.Le.refl _)) cellsLe.nil))))) rfl) ?_
        ((conv=>whnf);repeat((first|refine Ta ?_|refine Tz mix ?_|refine Tc ?_|refine Tb ?_|refine Td rfl ?_|refine Tl ?_|refine sE rfl ?_|refine dG (by kernel_rfl) ?_|fail);(conv=>whnf)))
        obtain ⟨p14, h7_⟩ := grdO h7_
        have e := Option.some.inj h7_; subst e
        ((conv=>whnf);repeat((first|refine Ta ?_|refine Tz mix ?_|refine Tc ?_|refine Tb ?_|refine Td rfl ?_|refine Tl ?_|refine sE rfl ?_|refine dG (by kernel_rfl) ?_|fail);(conv=>whnf)))
        exact hn7 _ (y8, (IntKind.wrap .i64 (s5.2.1 - s5.2.2)), s5.2.2) hs7 (weak_gen [0, 1] rfl rfl (storeLe.cons rfl (objLe.mk id id (rowLe_ints (by first | rfl | simp))) (storeLe.cons rfl (objLe.mk id id (rowLe_vals (valsLe.cons (cellsLe_refl rfl) valsLe.nil))) storeLe.nil)) (slotsLe.cons (And.intro rfl (AV.Le.refl _)) (slotsLe.cons (And.intro rfl (AV.Le.refl _)) (slotsLe.cons (And.intro rfl (AV.Le.refl _)) (slotsLe.cons (And.intro rfl (AV.Le.refl _)) (slotsLe.cons (And.intro rfl (AV.Le.refl _)) slotsLe.nil))))))
      · ((conv=>whnf);repeat((first|refine Ta ?_|refine Tz mix ?_|refine Tc ?_|refine Tb ?_|refine Td rfl ?_|refine Tl ?_|refine sE rfl ?_|refine dG (by kernel_rfl) ?_|fail);(conv=>whnf)))
        refine bnd h7_ (fun y9 hy9 h7_ => ?_)
        refine own_intro (own_call [0, 1] (c_slices_swapRangeCmpFunc_rune_own _ _ _ _ _ _ _ _ hy9) rfl (storeLe.cons rfl (objLe.mk id id (rowLe_ints (by first | rfl | simp))) (storeLe.cons rfl (objLe.mk id id (rowLe_vals (valsLe.cons (cellsLe_refl rfl) valsLe.nil))) storeLe.nil)) (cellsLe.cons (And.intro rfl (AV.Le.refl _)) (cellsLe.cons (And.intro rfl (AV.Le.refl _)) (cellsLe.cons (And.intro rfl (AV.Le.refl _)) (cellsLe.cons (And.intro rfl (AV.Le.refl _)) (cellsLe.cons (And.intro rfl (AV.Le.refl _)) cellsLe.nil))))) rfl) ?_
        ((conv=>whnf);repeat((first|refine Ta ?_|refine Tz mix ?_|refine Tc ?_|refine Tb ?_|refine Td rfl ?_|refine Tl ?_|refine sE rfl ?_|refine dG (by kernel_rfl) ?_|fail);(conv=>whnf)))
        obtain ⟨p15, h7_⟩ := grdO h7_
        have e := Option.some.inj h7_; subst e
        ((conv=>whnf);repeat((first|refine Ta ?_|refine Tz mix ?_|refine Tc ?_|refine Tb ?_|refine Td rfl ?_|refine Tl ?_|refine sE rfl ?_|refine dG (by kernel_rfl) ?_|fail);(conv=>whnf)))
        exact hn7 _ (y9, s5.2.1, (IntKind.wrap .i64 (s5.2.2 - s5.2.1))) hs7 (weak_gen [0, 1] rfl rfl (storeLe.cons rfl (objLe.mk id id (rowLe_ints (by first | rfl | simp))) (storeLe.cons rfl (objLe.mk id id (rowLe_vals (valsLe.cons (cellsLe_refl rfl) valsLe.nil))) storeLe.nil)) (slotsLe.cons (And.intro rfl (AV.Le.refl _)) (slotsLe.cons (And.intro rfl (AV.Le.refl _)) (slotsLe.cons (And.intro rfl (AV.Le.refl _)) (slotsLe.cons (And.intro rfl (AV.Le.refl _)) (slotsLe.cons (And.intro rfl (AV.Le.refl _)) slotsLe.nil))))))
    · have e := Option.some.inj h7_; subst e
      have e := done_out hs7; subst e
      ((conv=>whnf);repeat((first|refine Ta ?_|refine Tz mix ?_|refine Tc ?_|refine Tb ?_|refine Td rfl ?_|refine Tl ?_|refine sE rfl ?_|refine dG (by kernel_rfl) ?_|fail);(conv=>whnf)))
      exact hn11 _ (s5.1, s5.2.1) h (weak_gen [0, 1] rfl rfl (storeLe.cons rfl (objLe.mk id id (rowLe_ints (by first | rfl | simp))) (storeLe.cons rfl (objLe.mk id id (rowLe_vals (valsLe.cons (cellsLe_refl rfl) valsLe.nil))) storeLe.nil)) (slotsLe.cons (And.intro rfl (AV.Le.refl _)) (slotsLe.cons (And.intro rfl (AV.Le.refl _)) (slotsLe.cons (And.intro rfl (AV.Le.refl _)) (slotsLe.cons (And.intro rfl (AV.Le.refl _)) slotsLe.nil)))))
  · clear h h11
    intro s1 hc16
    ((conv=>whnf);repeat((first|refine Ta ?_|refine Tz mix ?_|refine Tc ?_|refine Tb ?_|refine Td rfl ?_|refine Tl ?_|refine sE rfl ?_|refine dG (by kernel_rfl) ?_|fail);(conv=>whnf)))
    refine bnd hc16 (fun y3 hy3 hc16 => ?_)
    refine own_intro (own_call [0, 1] (c_slices_swapRangeCmpFunc_rune_own _ _ _ _ _ _ _ _ hy3) rfl (storeLe.cons rfl (objLe.mk id id (rowLe_ints (by first | rfl | simp))) (storeLe.cons rfl (objLe.mk id id (rowLe_vals (valsLe.cons (cellsLe_refl rfl) valsLe.nil))) storeLe.nil)) (cellsLe.cons (And.intro rfl (AV.Le.refl _)) (cellsLe.cons (And.intro rfl (AV.Le.refl _)) (cellsLe.cons (And.intro rfl (AV.Le.refl _)) (cellsLe.cons (And.intro rfl (AV.Le.refl _)) (cellsLe.cons (And.intro rfl (AV.Le.refl _)) cellsLe.nil))))) rfl) ?_
    ((conv=>whnf);repeat((first|refine Ta ?_|refine Tz mix ?_|refine Tc ?_|refine Tb ?_|refine Td rfl ?_|refine Tl ?_|refine sE rfl ?_|refine dG (by kernel_rfl) ?_|fail);(conv=>whnf)))
    obtain ⟨p17, hc16⟩ := grdO hc16
    have e := Option.some.inj hc16; subst e
    ((conv=>whnf);repeat((first|refine Ta ?_|refine Tz mix ?_|refine Tc ?_|refine Tb ?_|refine Td rfl ?_|refine Tl ?_|refine sE rfl ?_|refine dG (by kernel_rfl) ?_|fail);(conv=>whnf)))
    exact Or.inr (Or.inr (weak_gen [0, 1] rfl rfl (storeLe.cons rfl (objLe.mk id id (rowLe_ints (by first | rfl | simp))) (storeLe.cons rfl (objLe.mk id id (rowLe_vals (valsLe.cons (cellsLe_refl rfl) valsLe.nil))) storeLe.nil)) (slotsLe.cons (And.intro rfl (AV.Le.refl _)) slotsLe.nil)))
theorem c_slices_symMergeCmpFunc_rune_own_body (rec_ : (List Int) → Nat → Nat → Int → Int → Int → T_api_Norm → Option (List Int)) (hrec : ∀ (p_data : (List Int)) (p_data_o : Nat) (p_data_n : Nat) (p_a : Int) (p_m : Int) (p_b : Int) (p_cmp_0 : T_api_Norm) (r : (List Int)), rec_ p_data p_data_o p_data_n p_a p_m p_b p_cmp_0 = some r → ContractM 2 pl 171 [(.mso 0 p_data_o p_data_n), (.int .i64 p_a), (.int .i64 p_m), (.int .i64 p_b), (.fn (.func 119) [] [(.mp 1 0 0)])] [some ⟨1, 21, (.ints .i32 p_data), false, true⟩, some ⟨3, 40, (.vals [(e_api_Norm p_cmp_0)]), false, false⟩] (.tup []) [some ⟨1, 21, (.ints .i32 r), false, true⟩, some ⟨3, 40, (.vals [(e_api_Norm p_cmp_0)]), false, false⟩]) (p_data : (List Int)) (p_data_o : Nat) (p_data_n : Nat) (p_a : Int) (p_m : Int) (p_b : Int) (p_cmp_0 : T_api_Norm) (r : (List Int)) (h : m_slices_symMergeCmpFunc_rune_own_body rec_ p_data p_data_o p_data_n p_a p_m p_b p_cmp_0 = some r) : ContractM 2 pl 171 [(.mso 0 p_data_o p_data_n), (.int .i64 p_a), (.int .i64 p_m), (.int .i64 p_b), (.fn (.func 119) [] [(.mp 1 0 0)])] [some ⟨1, 21, (.ints .i32 p_data), false, true⟩, some ⟨3, 40, (.vals [(e_api_Norm p_cmp_0)]), false, false⟩] (.tup []) [some ⟨1, 21, (.ints .i32 r), false, true⟩, some ⟨3, 40, (.vals [(e_api_Norm p_cmp_0)]), false, false⟩] := by
  refine contract_own 2 (.t true (.t false .z (.t false (.t false .z (.t false .z (.t true .z .z))) .z)) (.t true (.t false .z (.t false (.t false .z (.t false .z (.t true .z .z))) .z)) (.t false .z (.t false .z (.t false .z (.t true .z (.t false .z (.t true .z (.t false .z (.t true (.t true .z .z) (.t true (.t true .z .z) (.t true .z .z)))))))))))) rfl Tryd.func171 rfl (by kernel_rfl) ?_
  ((conv=>whnf);repeat((first|refine Ta ?_|refine Tz mix ?_|refine Tc ?_|refine Tb ?_|refine Td rfl ?_|refine Tl ?_|refine sE rfl ?_|refine dG (by kernel_rfl) ?_|fail);(conv=>whnf)))
  refine bnd h (fun x56 h56 h => ?_)
  refine cut_at (fun s1 : Unit => mkF 220 [(0, (.mso 0 p_data_o p_data_n)), (1, (.int .i64 p_a)), (2, (.int .i64 p_m)), (3, (.int .i64 p_b)), (4, (.fn (.func 119) [] [(.mp 1 0 0)]))] [some ⟨1, 21, (.ints .i32 p_data), false, true⟩, some ⟨3, 40, (.vals [(e_api_Norm p_cmp_0)]), false, false⟩]) (fun s1 : Unit => m_slices_symMergeCmpFunc_rune_own_K2 p_data p_data_o p_data_n p_a p_m p_b p_cmp_0 rec_ s1 = some r) ?_ ?_
  · intro Kn56 hn56
    ((conv=>whnf);repeat((first|refine Ta ?_|refine Tz mix ?_|refine Tc ?_|refine Tb ?_|refine Td rfl ?_|refine Tl ?_|refine sE rfl ?_|refine dG (by kernel_rfl) ?_|fail);(conv=>whnf)))
    refine br_b rfl h56 (fun c57 h56 => ?_) (fun c57 h56 => ?_)
    · ((conv=>whnf);repeat((first|refine Ta ?_|refine Tz mix ?_|refine Tc ?_|refine Tb ?_|refine Td rfl ?_|refine Tl ?_|refine sE rfl ?_|refine dG (by kernel_rfl) ?_|fail);(conv=>whnf)))
      refine bnd h56 (fun x58 h58 h56 => ?_)
      refine cut_at (fun s42 : Int => mkF 220 [(0, (.mso 0 p_data_o p_data_n)), (1, (.int .i64 p_a)), (10, (.int .i64 s42))] [some ⟨1, 21, (.ints .i32 p_data), false, true⟩, some ⟨3, 40, (.vals [(e_api_Norm p_cmp_0)]), false, false⟩]) (fun s42 : Int => m_slices_symMergeCmpFunc_rune_own_K43 p_data p_data_o p_data_n p_a s42 = some x56) ?_ ?_
      · intro Kn58 hn58
        ((conv=>whnf);repeat((first|refine Ta ?_|refine Tz mix ?_|refine Tc ?_|refine Tb ?_|refine Td rfl ?_|refine Tl ?_|refine sE rfl ?_|refine dG (by kernel_rfl) ?_|fail);(conv=>whnf)))
        refine loop_iter (fun s50 : Int × Int => mkF 220 [(0, (.mso 0 p_data_o p_data_n)), (1, (.int .i64 p_a)), (4, (.fn (.func 119) [] [(.mp 1 0 0)])), (10, (.int .i64 s50.1)), (11, (.int .i64 s50.2))] [some ⟨1, 21, (.ints .i32 p_data), false, true⟩, some ⟨3, 40, (.vals [(e_api_Norm p_cmp_0)]), false, false⟩]) h58 (weak_gen [0, 1] rfl rfl (storeLe.cons rfl (objLe.mk id id (by first | exact rowLe_same fun _ _ _ => rfl | (simp; exact rowLe_same fun _ _ _ => rfl))) (storeLe.cons rfl (objLe.mk id id (rowLe_vals (valsLe.cons (cellsLe_refl rfl) valsLe.nil))) storeLe.nil)) (slotsLe.cons (And.intro rfl (AV.Le.refl _)) (slotsLe.cons (And.intro rfl (AV.Le.refl _)) (slotsLe.cons (And.intro rfl (AV.Le.refl _)) (slotsLe.cons (And.intro rfl (AV.Le.refl _)) (slotsLe.cons (And.intro rfl (AV.Le.refl _)) slotsLe.nil)))))) ?_
        intro k52 s50 st52 Kn52 hn52 h52_ hs52
        ((conv=>whnf);repeat((first|refine Ta ?_|refine Tz mix ?_|refine Tc ?_|refine Tb ?_|refine Td rfl ?_|refine Tl ?_|refine sE rfl ?_|refine dG (by kernel_rfl) ?_|fail);(conv=>whnf)))
        refine br_b rfl h52_ (fun c59 h52_ => ?_) (fun c59 h52_ => ?_)
        · ((conv=>whnf);repeat((first|refine Ta ?_|refine Tz mix ?_|refine Tc ?_|refine Tb ?_|refine Td rfl ?_|refine Tl ?_|refine sE rfl ?_|refine dG (by kernel_rfl) ?_|fail);(conv=>whnf)))
          refine And.intro (by decide) ?_
          ((conv=>whnf);repeat((first|refine Ta ?_|refine Tz mix ?_|refine Tc ?_|refine Tb ?_|refine Td rfl ?_|refine Tl ?_|refine sE rfl ?_|refine dG (by kernel_rfl) ?_|fail);(conv=>whnf)))
          refine grd2 rfl rfl h52_ (fun h52_ => ?_)
          ((conv=>whnf);repeat((first|refine Ta ?_|refine Tz mix ?_|refine Tc ?_|refine Tb ?_|refine Td rfl ?_|refine Tl ?_|refine sE rfl ?_|refine dG (by kernel_rfl) ?_|fail);(conv=>whnf)))
          refine grd2 rfl rfl h52_ (fun h52_ => ?_)
          ((conv=>whnf);repeat((first|refine Ta ?_|refine Tz mix ?_|refine Tc ?_|refine Tb ?_|refine Td rfl ?_|refine Tl ?_|refine sE rfl ?_|refine dG (by kernel_rfl) ?_|fail);(conv=>whnf)))
          refine bnd h52_ (fun y53 hy53 h52_ => ?_)
          refine Or.inl ⟨_, c_decomp_Order_1 _ _ _ _ hy53, rfl, ?_⟩
          ((conv=>whnf);repeat((first|refine Ta ?_|refine Tz mix ?_|refine Tc ?_|refine Tb ?_|refine Td rfl ?_|refine Tl ?_|refine sE rfl ?_|refine dG (by kernel_rfl) ?_|fail);(conv=>whnf)))
          refine br_b rfl h52_ (fun c60 h52_ => ?_) (fun c60 h52_ => ?_)
          · have e := Option.some.inj h52_; subst e
            ((conv=>whnf);repeat((first|refine Ta ?_|refine Tz mix ?_|refine Tc ?_|refine Tb ?_|refine Td rfl ?_|refine Tl ?_|refine sE rfl ?_|refine dG (by kernel_rfl) ?_|fail);(conv=>whnf)))
            exact hn52 _ ((IntKind.wrap .i64 ((IntKind.wrap .i64 (Int.fdiv (IntKind.wrap .u64 (IntKind.wrap .i64 (s50.1 + s50.2))) 2)) + (1 : Int))), s50.2) hs52 (weak_gen [0, 1] rfl rfl (storeLe.cons rfl (objLe.mk id id (by first | exact rowLe_same fun _ _ _ => rfl | (simp; exact rowLe_same fun _ _ _ => rfl))) (storeLe.cons rfl (objLe.mk id id (rowLe_vals (valsLe.cons (cellsLe_refl rfl) valsLe.nil))) storeLe.nil)) (slotsLe.cons (And.intro rfl (AV.Le.refl _)) (slotsLe.cons (And.intro rfl (AV.Le.refl _)) (slotsLe.cons (And.intro rfl (AV.Le.refl _)) (slotsLe.cons (And.intro rfl (AV.Le.refl _)) (slotsLe.cons (And.intro rfl (AV.Le.refl _)) slotsLe.nil))))))
          · have e := Option.some.inj h52_; subst e
            ((conv=>whnf);repeat((first|refine Ta ?_|refine Tz mix ?_|refine Tc ?_|refine Tb ?_|refine Td rfl ?_|refine Tl ?_|refine sE rfl ?_|refine dG (by kernel_rfl) ?_|fail);(conv=>whnf)))
            exact hn52 _ (s50.1, (IntKind.wrap .i64 (Int.fdiv (IntKind.wrap .u64 (IntKind.wrap .i64 (s50.1 + s50.2))) 2))) hs52 (weak_gen [0, 1] rfl rfl (storeLe.cons rfl (objLe.mk id id (by first | exact rowLe_same fun _ _ _ => rfl | (simp; exact rowLe_same fun _ _ _ => rfl))) (storeLe.cons rfl (objLe.mk id id (rowLe_vals (valsLe.cons (cellsLe_refl rfl) valsLe.nil))) storeLe.nil)) (slotsLe.cons (And.intro rfl (AV.Le.refl _)) (slotsLe.cons (And.intro rfl (AV.Le.refl _)) (slotsLe.cons (And.intro rfl (AV.Le.refl _)) (slotsLe.cons (And.intro rfl (AV.Le.refl _)) (slotsLe.cons (And.intro rfl (AV.Le.refl _)) slotsLe.nil))))))
        · have e := Option.some.inj h52_; subst e
          have e := done_out hs52; subst e
          ((conv=>whnf);repeat((first|refine Ta ?_|refine Tz mix ?_|refine Tc ?_|refine Tb ?_|refine Td rfl ?_|refine Tl ?_|refine sE rfl ?_|refine dG (by kernel_rfl) ?_|fail);(conv=>whnf)))
          exact hn58 _ s50.1 h56 (weak_gen [0, 1] rfl rfl (storeLe.cons rfl (objLe.mk id id (by first | exact rowLe_same fun _ _ _ => rfl | (simp; exact rowLe_same fun _ _ _ => rfl))) (storeLe.cons rfl (objLe.mk id id (rowLe_vals (valsLe.cons (cellsLe_refl rfl) valsLe.nil))) storeLe.nil)) (slotsLe.cons (And.intro rfl (AV.Le.refl _)) (slotsLe.cons (And.intro rfl (AV.Le.refl _)) (slotsLe.cons (And.intro rfl (AV.Le.refl _)) slotsLe.nil))))
      · clear h56 h58
        intro s42 hc61
        ((conv=>whnf);repeat((first|refine Ta ?_|refine Tz mix ?_|refine Tc ?_|refine Tb ?_|refine Td rfl ?_|refine Tl ?_|refine sE rfl ?_|refine dG (by kernel_rfl) ?_|fail);(conv=>whnf)))
        refine bnd hc61 (fun x47 hx47 hc61 => ?_)
        refine loop_iter (fun s45 : (List Int) × Int => mkF 220 [(0, (.mso 0 p_data_o p_data_n)), (10, (.int .i64 s42)), (13, (.int .i64 s45.2))] [some ⟨1, 21, (.ints .i32 s45.1), false, true⟩, some ⟨3, 40, (.vals [(e_api_Norm p_cmp_0)]), false, false⟩]) hx47 (weak_gen [0, 1] rfl rfl (storeLe.cons rfl (objLe.mk id id (rowLe_ints (by first | rfl | simp))) (storeLe.cons rfl (objLe.mk id id (rowLe_vals (valsLe.cons (cellsLe_refl rfl) valsLe.nil))) storeLe.nil)) (slotsLe.cons (And.intro rfl (AV.Le.refl _)) (slotsLe.cons (And.intro rfl (AV.Le.refl _)) (slotsLe.cons (And.intro rfl (AV.Le.refl _)) slotsLe.nil)))) ?_
        intro k47 s45 st47 Kn47 hn47 h47 hs47
        ((conv=>whnf);repeat((first|refine Ta ?_|refine Tz mix ?_|refine Tc ?_|refine Tb ?_|refine Td rfl ?_|refine Tl ?_|refine sE rfl ?_|refine dG (by kernel_rfl) ?_|fail);(conv=>whnf)))
        refine br_b rfl h47 (fun c62 h47 => ?_) (fun c62 h47 => ?_)
        · ((conv=>whnf);repeat((first|refine Ta ?_|refine Tz mix ?_|refine Tc ?_|refine Tb ?_|refine Td rfl ?_|refine Tl ?_|refine sE rfl ?_|refine dG (by kernel_rfl) ?_|fail);(conv=>whnf)))
          refine grd2 rfl rfl h47 (fun h47 => ?_)
          ((conv=>whnf);repeat((first|refine Ta ?_|refine Tz mix ?_|refine Tc ?_|refine Tb ?_|refine Td rfl ?_|refine Tl ?_|refine sE rfl ?_|refine dG (by kernel_rfl) ?_|fail);(conv=>whnf)))
          refine grd2 rfl rfl h47 (fun h47 => ?_)
          ((conv=>whnf);repeat((first|refine Ta ?_|refine Tz mix ?_|refine Tc ?_|refine Tb ?_|refine Td rfl ?_|refine Tl ?_|refine sE rfl ?_|refine dG (by kernel_rfl) ?_|fail);(conv=>whnf)))
          refine grd2 rfl rfl h47 (fun h47 => ?_)
          ((conv=>whnf);repeat((first|refine Ta ?_|refine Tz mix ?_|refine Tc ?_|refine Tb ?_|refine Td rfl ?_|refine Tl ?_|refine sE rfl ?_|refine dG (by kernel_rfl) ?_|fail);(conv=>whnf)))
          refine grd2 rfl rfl h47 (fun h47 => ?_)
          have e := Option.some.inj h47; subst e
          ((conv=>whnf);repeat((first|refine Ta ?_|refine Tz mix ?_|refine Tc ?_|refine Tb ?_|refine Td rfl ?_|refine Tl ?_|refine sE rfl ?_|refine dG (by kernel_rfl) ?_|fail);(conv=>whnf)))
          exact hn47 _ (((s45.1.set (p_data_o + (s45.2.toNat)) (s45.1.getD (p_data_o + ((IntKind.wrap .i64 (s45.2 + (1 : Int))).toNat)) 0)).set (p_data_o + ((IntKind.wrap .i64 (s45.2 + (1 : Int))).toNat)) (s45.1.getD (p_data_o + (s45.2.toNat)) 0)), (IntKind.wrap .i64 (s45.2 + (1 : Int)))) hs47 (weak_gen [0, 1] rfl rfl (storeLe.cons rfl (objLe.mk id id (rowLe_ints (by first | rfl | simp))) (storeLe.cons rfl (objLe.mk id id (rowLe_vals (valsLe.cons (cellsLe_refl rfl) valsLe.nil))) storeLe.nil)) (slotsLe.cons (And.intro rfl (AV.Le.refl _)) (slotsLe.cons (And.intro rfl (AV.Le.refl _)) (slotsLe.cons (And.intro rfl (AV.Le.refl _)) slotsLe.nil))))
        · have e := Option.some.inj h47; subst e
          have e := done_out hs47; subst e
          have e := Option.some.inj hc61; subst e
          have e := Option.some.inj h; subst e
          ((conv=>whnf);repeat((first|refine Ta ?_|refine Tz mix ?_|refine Tc ?_|refine Tb ?_|refine Td rfl ?_|refine Tl ?_|refine sE rfl ?_|refine dG (by kernel_rfl) ?_|fail);(conv=>whnf)))
          exact Or.inr (Or.inr (weak_gen [0, 1] rfl rfl (storeLe.cons rfl (objLe.mk id id (rowLe_ints (by first | rfl | simp))) (storeLe.cons rfl (objLe.mk id id (rowLe_vals (valsLe.cons (cellsLe_refl rfl) valsLe.nil))) storeLe.nil)) (slotsLe.cons (And.intro rfl (AV.Le.refl _)) slotsLe.nil)))
    · have e := Option.some.inj h56; subst e
      ((conv=>whnf);repeat((first|refine Ta ?_|refine Tz mix ?_|refine Tc ?_|refine Tb ?_|refine Td rfl ?_|refine Tl ?_|refine sE rfl ?_|refine dG (by kernel_rfl) ?_|fail);(conv=>whnf)))
      exact hn56 _ () h (weak_gen [0, 1] rfl rfl (storeLe.cons rfl (objLe.mk id id (by first | exact rowLe_same fun _ _ _ => rfl | (simp; exact rowLe_same fun _ _ _ => rfl))) (storeLe.cons rfl (objLe.mk id id (rowLe_vals (valsLe.cons (cellsLe_refl rfl) valsLe.nil))) storeLe.nil)) (slotsLe.cons (And.intro rfl (AV.Le.refl _)) (slotsLe.cons (And.intro rfl (AV.Le.refl _)) (slotsLe.cons (And.intro rfl (AV.Le.refl _)) (slotsLe.cons (And.intro rfl (AV.Le.refl _)) (slotsLe.cons (And.intro rfl (AV.Le.refl _)) slotsLe.nil))))))
  · clear h h56
    intro s1 hc63
    ((conv=>whnf);repeat((first|refine Ta ?_|refine Tz mix ?_|refine Tc ?_|refine Tb ?_|refine Td rfl ?_|refine Tl ?_|refine sE rfl ?_|refine dG (by kernel_rfl) ?_|fail);(conv=>whnf)))
    refine bnd hc63 (fun x64 h64 hc63 => ?_)
    refine cut_at (fun s3 : Unit => mkF 220 [(0, (.mso 0 p_data_o p_data_n)), (1, (.int .i64 p_a)), (2, (.int .i64 p_m)), (3, (.int .i64 p_b)), (4, (.fn (.func 119) [] [(.mp 1 0 0)]))] [some ⟨1, 21, (.ints .i32 p_data), false, true⟩, some ⟨3, 40, (.vals [(e_api_Norm p_cmp_0)]), false, false⟩]) (fun s3 : Unit => m_slices_symMergeCmpFunc_rune_own_K4 p_data p_data_o p_data_n p_a p_m p_b p_cmp_0 rec_ s3 = some r) ?_ ?_
    · intro Kn64 hn64
      ((conv=>whnf);repeat((first|refine Ta ?_|refine Tz mix ?_|refine Tc ?_|refine Tb ?_|refine Td rfl ?_|refine Tl ?_|refine sE rfl ?_|refine dG (by kernel_rfl) ?_|fail);(conv=>whnf)))
      refine br_b rfl h64 (fun c65 h64 => ?_) (fun c65 h64 => ?_)
      · ((conv=>whnf);repeat((first|refine Ta ?_|refine Tz mix ?_|refine Tc ?_|refine Tb ?_|refine Td rfl ?_|refine Tl ?_|refine sE rfl ?_|refine dG (by kernel_rfl) ?_|fail);(conv=>whnf)))
        refine bnd h64 (fun x66 h66 h64 => ?_)
        refine cut_at (fun s28 : Int => mkF 220 [(0, (.mso 0 p_data_o p_data_n)), (2, (.int .i64 p_m)), (14, (.int .i64 s28))] [some ⟨1, 21, (.ints .i32 p_data), false, true⟩, some ⟨3, 40, (.vals [(e_api_Norm p_cmp_0)]), false, false⟩]) (fun s28 : Int => m_slices_symMergeCmpFunc_rune_own_K29 p_data p_data_o p_data_n p_m s28 = some x64) ?_ ?_
        · intro Kn66 hn66
          ((conv=>whnf);repeat((first|refine Ta ?_|refine Tz mix ?_|refine Tc ?_|refine Tb ?_|refine Td rfl ?_|refine Tl ?_|refine sE rfl ?_|refine dG (by kernel_rfl) ?_|fail);(conv=>whnf)))
          refine loop_iter (fun s36 : Int × Int => mkF 220 [(0, (.mso 0 p_data_o p_data_n)), (2, (.int .i64 p_m)), (4, (.fn (.func 119) [] [(.mp 1 0 0)])), (14, (.int .i64 s36.1)), (15, (.int .i64 s36.2))] [some ⟨1, 21, (.ints .i32 p_data), false, true⟩, some ⟨3, 40, (.vals [(e_api_Norm p_cmp_0)]), false, false⟩]) h66 (weak_gen [0, 1] rfl rfl (storeLe.cons rfl (objLe.mk id id (by first | exact rowLe_same fun _ _ _ => rfl | (simp; exact rowLe_same fun _ _ _ => rfl))) (storeLe.cons rfl (objLe.mk id id (rowLe_vals (valsLe.cons (cellsLe_refl rfl) valsLe.nil))) storeLe.nil)) (slotsLe.cons (And.intro rfl (AV.Le.refl _)) (slotsLe.cons (And.intro rfl (AV.Le.refl _)) (slotsLe.cons (And.intro rfl (AV.Le.refl _)) (slotsLe.cons (And.intro rfl (AV.Le.refl _)) (slotsLe.cons (And.intro rfl (AV.Le.refl _)) slotsLe.nil)))))) ?_
          intro k38 s36 st38 Kn38 hn38 h38_ hs38
          ((conv=>whnf);repeat((first|refine Ta ?_|refine Tz mix ?_|refine Tc ?_|refine Tb ?_|refine Td rfl ?_|refine Tl ?_|refine sE rfl ?_|refine dG (by kernel_rfl) ?_|fail);(conv=>whnf)))
          refine br_b rfl h38_ (fun c67 h38_ => ?_) (fun c67 h38_ => ?_)
          · ((conv=>whnf);repeat((first|refine Ta ?_|refine Tz mix ?_|refine Tc ?_|refine Tb ?_|refine Td rfl ?_|refine Tl ?_|refine sE rfl ?_|refine dG (by kernel_rfl) ?_|fail);(conv=>whnf)))
            refine And.intro (by decide) ?_
            ((conv=>whnf);repeat((first|refine Ta ?_|refine Tz mix ?_|refine Tc ?_|refine Tb ?_|refine Td rfl ?_|refine Tl ?_|refine sE rfl ?_|refine dG (by kernel_rfl) ?_|fail);(conv=>whnf)))
            refine grd2 rfl rfl h38_ (fun h38_ => ?_)
            ((conv=>whnf);repeat((first|refine Ta ?_|refine Tz mix ?_|refine Tc ?_|refine Tb ?_|refine Td rfl ?_|refine Tl ?_|refine sE rfl ?_|refine dG (by kernel_rfl) ?_|fail);(conv=>whnf)))
            refine grd2 rfl rfl h38_ (fun h38_ => ?_)
            ((conv=>whnf);repeat((first|refine Ta ?_|refine Tz mix ?_|refine Tc ?_|refine Tb ?_|refine Td rfl ?_|refine Tl ?_|refine sE rfl ?_|refine dG (by kernel_rfl) ?_|fail);(conv=>whnf)))
            refine bnd h38_ (fun y39 hy39 h38_ => ?_)
            refine Or.inl ⟨_, c_decomp_Order_1 _ _ _ _ hy39, rfl, ?_⟩
            ((conv=>whnf);repeat((first|refine Ta ?_|refine Tz mix ?_|refine Tc ?_|refine Tb ?_|refine Td rfl ?_|refine Tl ?_|refine sE rfl ?_|refine dG (by kernel_rfl) ?_|fail);(conv=>whnf)))
            refine br_b rfl h38_ (fun c68 h38_ => ?_) (fun c68 h38_ => ?_)
            · have e := Option.some.inj h38_; subst e
              ((conv=>whnf);repeat((first|refine Ta ?_|refine Tz mix ?_|refine Tc ?_|refine Tb ?_|refine Td rfl ?_|refine Tl ?_|refine sE rfl ?_|refine dG (by kernel_rfl) ?_|fail);(conv=>whnf)))
              exact hn38 _ ((IntKind.wrap .i64 ((IntKind.wrap .i64 (Int.fdiv (IntKind.wrap .u64 (IntKind.wrap .i64 (s36.1 + s36.2))) 2)) + (1 : Int))), s36.2) hs38 (weak_gen [0, 1] rfl rfl (storeLe.cons rfl (objLe.mk id id (by first | exact rowLe_same fun _ _ _ => rfl | (simp; exact rowLe_same fun _ _ _ => rfl))) (storeLe.cons rfl (objLe.mk id id (rowLe_vals (valsLe.cons (cellsLe_refl rfl) valsLe.nil))) storeLe.nil)) (slotsLe.cons (And.intro rfl (AV.Le.refl _)) (slotsLe.cons (And.intro rfl (AV.Le.refl _)) (slotsLe.cons (And.intro rfl (AV.Le.refl _)) (slotsLe.cons (And.intro rfl (AV.Le.refl _)) (slotsLe.cons (And.intro rfl (AV.Le.refl _)) slotsLe.nil))))))
            · have e := Option.some.inj h38_; subst e
              ((conv=>whnf);repeat((first|refine Ta ?_|refine Tz mix ?_|refine Tc ?_|refine Tb ?_|refine Td rfl ?_|refine Tl ?_|refine sE rfl ?_|refine dG (by kernel_rfl) ?_|fail);(conv=>whnf)))
              exact hn38 _ (s36.1, (IntKind.wrap .i64 (Int.fdiv (IntKind.wrap .u64 (IntKind.wrap .i64 (s36.1 + s36.2))) 2))) hs38 (weak_gen [0, 1] rfl rfl (storeLe.cons rfl (objLe.mk id id (by first | exact rowLe_same fun _ _ _ => rfl | (simp; exact rowLe_same fun _ _ _ => rfl))) (storeLe.cons rfl (objLe.mk id id (rowLe_vals (valsLe.cons (cellsLe_refl rfl) valsLe.nil))) storeLe.nil)) (slotsLe.cons (And.intro rfl (AV.Le.refl _)) (slotsLe.cons (And.intro rfl (AV.Le.refl _)) (slotsLe.cons (And.intro rfl (AV.Le.refl _)) (slotsLe.cons (And.intro rfl (AV.Le.refl _)) (slotsLe.cons (And.intro rfl (AV.Le.refl _)) slotsLe.nil))))))
          · have e := Option.some.inj h38_; subst e
            have e := done_out hs38; subst e
            ((conv=>whnf);repeat((first|refine Ta ?_|refine Tz mix ?_|refine Tc ?_|refine Tb ?_|refine Td rfl ?_|refine Tl ?_|refine sE rfl ?_|refine dG (by kernel_rfl) ?_|fail);(conv=>whnf)))
            exact hn66 _ s36.1 h64 (weak_gen [0, 1] rfl rfl (storeLe.cons rfl (objLe.mk id id (by first | exact rowLe_same fun _ _ _ => rfl | (simp; exact rowLe_same fun _ _ _ => rfl))) (storeLe.cons rfl (objLe.mk id id (rowLe_vals (valsLe.cons (cellsLe_refl rfl) valsLe.nil))) storeLe.nil)) (slotsLe.cons (And.intro rfl (AV.Le.refl _)) (slotsLe.cons (And.intro rfl (AV.Le.refl _)) (slotsLe.cons (And.intro rfl (AV.Le.refl _)) slotsLe.nil))))
        · clear h64 h66
          intro s28 hc69
          ((conv=>whnf);repeat((first|refine Ta ?_|refine Tz mix ?_|refine Tc ?_|refine Tb ?_|refine Td rfl ?_|refine Tl ?_|refine sE rfl ?_|refine dG (by kernel_rfl) ?_|fail);(conv=>whnf)))
          refine bnd hc69 (fun x33 hx33 hc69 => ?_)
          refine loop_iter (fun s31 : (List Int) × Int => mkF 220 [(0, (.mso 0 p_data_o p_data_n)), (14, (.int .i64 s28)), (17, (.int .i64 s31.2))] [some ⟨1, 21, (.ints .i32 s31.1), false, true⟩, some ⟨3, 40, (.vals [(e_api_Norm p_cmp_0)]), false, false⟩]) hx33 (weak_gen [0, 1] rfl rfl (storeLe.cons rfl (objLe.mk id id (rowLe_ints (by first | rfl | simp))) (storeLe.cons rfl (objLe.mk id id (rowLe_vals (valsLe.cons (cellsLe_refl rfl) valsLe.nil))) storeLe.nil)) (slotsLe.cons (And.intro rfl (AV.Le.refl _)) (slotsLe.cons (And.intro rfl (AV.Le.refl _)) (slotsLe.cons (And.intro rfl (AV.Le.refl _)) slotsLe.nil)))) ?_
          intro k33 s31 st33 Kn33 hn33 h33 hs33
          ((conv=>whnf);repeat((first|refine Ta ?_|refine Tz mix ?_|refine Tc ?_|refine Tb ?_|refine Td rfl ?_|refine Tl ?_|refine sE rfl ?_|refine dG (by kernel_rfl) ?_|fail);(conv=>whnf)))
          refine br_b rfl h33 (fun c70 h33 => ?_) (fun c70 h33 => ?_)
          · ((conv=>whnf);repeat((first|refine Ta ?_|refine Tz mix ?_|refine Tc ?_|refine Tb ?_|refine Td rfl ?_|refine Tl ?_|refine sE rfl ?_|refine dG (by kernel_rfl) ?_|fail);(conv=>whnf)))
            refine grd2 rfl rfl h33 (fun h33 => ?_)
            ((conv=>whnf);repeat((first|refine Ta ?_|refine Tz mix ?_|refine Tc ?_|refine Tb ?_|refine Td rfl ?_|refine Tl ?_|refine sE rfl ?_|refine dG (by kernel_rfl) ?_|fail);(conv=>whnf)))
            refine grd2 rfl rfl h33 (fun h33 => ?_)
            ((conv=>whnf);repeat((first|refine Ta ?_|refine Tz mix ?_|refine Tc ?_|refine Tb ?_|refine Td rfl ?_|refine Tl ?_|refine sE rfl ?_|refine dG (by kernel_rfl) ?_|fail);(conv=>whnf)))
            refine grd2 rfl rfl h33 (fun h33 => ?_)
            ((conv=>whnf);repeat((first|refine Ta ?_|refine Tz mix ?_|refine Tc ?_|refine Tb ?_|refine Td rfl ?_|refine Tl ?_|refine sE rfl ?_|refine dG (by kernel_rfl) ?_|fail);(conv=>whnf)))
            refine grd2 rfl rfl h33 (fun h33 => ?_)
            have e := Option.some.inj h33; subst e
            ((conv=>whnf);repeat((first|refine Ta ?_|refine Tz mix ?_|refine Tc ?_|refine Tb ?_|refine Td rfl ?_|refine Tl ?_|refine sE rfl ?_|refine dG (by kernel_rfl) ?_|fail);(conv=>whnf)))
            exact hn33 _ (((s31.1.set (p_data_o + (s31.2.toNat)) (s31.1.getD (p_data_o + ((IntKind.wrap .i64 (s31.2 - (1 : Int))).toNat)) 0)).set (p_data_o + ((IntKind.wrap .i64 (s31.2 - (1 : Int))).toNat)) (s31.1.getD (p_data_o + (s31.2.toNat)) 0)), (IntKind.wrap .i64 (s31.2 - (1 : Int)))) hs33 (weak_gen [0, 1] rfl rfl (storeLe.cons rfl (objLe.mk id id (rowLe_ints (by first | rfl | simp))) (storeLe.cons rfl (objLe.mk id id (rowLe_vals (valsLe.cons (cellsLe_refl rfl) valsLe.nil))) storeLe.nil)) (slotsLe.cons (And.intro rfl (AV.Le.refl _)) (slotsLe.cons (And.intro rfl (AV.Le.refl _)) (slotsLe.cons (And.intro rfl (AV.Le.refl _)) slotsLe.nil))))
          · have e := Option.some.inj h33; subst e
            have e := done_out hs33; subst e
            have e := Option.some.inj hc69; subst e
            have e := Option.some.inj hc63; subst e
            ((conv=>whnf);repeat((first|refine Ta ?_|refine Tz mix ?_|refine Tc ?_|refine Tb ?_|refine Td rfl ?_|refine Tl ?_|refine sE rfl ?_|refine dG (by kernel_rfl) ?_|fail);(conv=>whnf)))
            exact Or.inr (Or.inr (weak_gen [0, 1] rfl rfl (storeLe.cons rfl (objLe.mk id id (rowLe_ints (by first | rfl | simp))) (storeLe.cons rfl (objLe.mk id id (rowLe_vals (valsLe.cons (cellsLe_refl rfl) valsLe.nil))) storeLe.nil)) (slotsLe.cons (And.intro rfl (AV.Le.refl _)) slotsLe.nil)))
      · have e := Option.some.inj h64; subst e
        ((conv=>whnf);repeat((first|refine Ta ?_|refine Tz mix ?_|refine Tc ?_|refine Tb ?_|refine Td rfl ?_|refine Tl ?_|refine sE rfl ?_|refine dG (by kernel_rfl) ?_|fail);(conv=>whnf)))
        exact hn64 _ () hc63 (weak_gen [0, 1] rfl rfl (storeLe.cons rfl (objLe.mk id id (by first | exact rowLe_same fun _ _ _ => rfl | (simp; exact rowLe_same fun _ _ _ => rfl))) (storeLe.cons rfl (objLe.mk id id (rowLe_vals (valsLe.cons (cellsLe_refl rfl) valsLe.nil))) storeLe.nil)) (slotsLe.cons (And.intro rfl (AV.Le.refl _)) (slotsLe.cons (And.intro rfl (AV.Le.refl _)) (slotsLe.cons (And.intro rfl (AV.Le.refl _)) (slotsLe.cons (And.intro rfl (AV.Le.refl _)) (slotsLe.cons (And.intro rfl (AV.Le.refl _)) slotsLe.nil))))))
    · clear hc63 h64
      intro s3 hc71
      ((conv=>whnf);repeat((first|refine Ta ?_|refine Tz mix ?_|refine Tc ?_|refine Tb ?_|refine Td rfl ?_|refine Tl ?_|refine sE rfl ?_|refine dG (by kernel_rfl) ?_|fail);(conv=>whnf)))
      refine And.intro (by decide) ?_
      ((conv=>whnf);repeat((first|refine Ta ?_|refine Tz mix ?_|refine Tc ?_|refine Tb ?_|refine Td rfl ?_|refine Tl ?_|refine sE rfl ?_|refine dG (by kernel_rfl) ?_|fail);(conv=>whnf)))
      refine bnd hc71 (fun x72 h72 hc71 => ?_)
      refine cut_at (fun s5 : Int × Int => mkF 220 [(0, (.mso 0 p_data_o p_data_n)), (1, (.int .i64 p_a)), (2, (.int .i64 p_m)), (3, (.int .i64 p_b)), (4, (.fn (.func 119) [] [(.mp 1 0 0)])), (18, (.int .i64 (IntKind.wrap .i64 (Int.fdiv (IntKind.wrap .u64 (IntKind.wrap .i64 (p_a + p_b))) 2)))), (19, (.int .i64 (IntKind.wrap .i64 ((IntKind.wrap .i64 (Int.fdiv (IntKind.wrap .u64 (IntKind.wrap .i64 (p_a + p_b))) 2)) + p_m)))), (20, (.int .i64 s5.1)), (21, (.int .i64 s5.2))] [some ⟨1, 21, (.ints .i32 p_data), false, true⟩, some ⟨3, 40, (.vals [(e_api_Norm p_cmp_0)]), false, false⟩]) (fun s5 : Int × Int => m_slices_symMergeCmpFunc_rune_own_K6 p_data p_data_o p_data_n p_a p_m p_b p_cmp_0 rec_ s5 = some r) ?_ ?_
      · intro Kn72 hn72
        ((conv=>whnf);repeat((first|refine Ta ?_|refine Tz mix ?_|refine Tc ?_|refine Tb ?_|refine Td rfl ?_|refine Tl ?_|refine sE rfl ?_|refine dG (by kernel_rfl) ?_|fail);(conv=>whnf)))
        refine br_b rfl h72 (fun c73 h72 => ?_) (fun c73 h72 => ?_)
        · have e := Option.some.inj h72; subst e
          ((conv=>whnf);repeat((first|refine Ta ?_|refine Tz mix ?_|refine Tc ?_|refine Tb ?_|refine Td rfl ?_|refine Tl ?_|refine sE rfl ?_|refine dG (by kernel_rfl) ?_|fail);(conv=>whnf)))
          exact hn72 _ ((IntKind.wrap .i64 ((IntKind.wrap .i64 ((IntKind.wrap .i64 (Int.fdiv (IntKind.wrap .u64 (IntKind.wrap .i64 (p_a + p_b))) 2)) + p_m)) - p_b)), (IntKind.wrap .i64 (Int.fdiv (IntKind.wrap .u64 (IntKind.wrap .i64 (p_a + p_b))) 2))) hc71 (weak_gen [0, 1] rfl rfl (storeLe.cons rfl (objLe.mk id id (by first | exact rowLe_same fun _ _ _ => rfl | (simp; exact rowLe_same fun _ _ _ => rfl))) (storeLe.cons rfl (objLe.mk id id (rowLe_vals (valsLe.cons (cellsLe_refl rfl) valsLe.nil))) storeLe.nil)) (slotsLe.cons (And.intro rfl (AV.Le.refl _)) (slotsLe.cons (And.intro rfl (AV.Le.refl _)) (slotsLe.cons (And.intro rfl (AV.Le.refl _)) (slotsLe.cons (And.intro rfl (AV.Le.refl _)) (slotsLe.cons (And.intro rfl (AV.Le.refl _)) (slotsLe.cons (And.intro rfl (AV.Le.refl _)) (slotsLe.cons (And.intro rfl (AV.Le.refl _)) (slotsLe.cons (And.intro rfl (AV.Le.refl _)) (slotsLe.cons (And.intro rfl (AV.Le.refl _)) slotsLe.nil))))))))))
        · have e := Option.some.inj h72; subst e
          ((conv=>whnf);repeat((first|refine Ta ?_|refine Tz mix ?_|refine Tc ?_|refine Tb ?_|refine Td rfl ?_|refine Tl ?_|refine sE rfl ?_|refine dG (by kernel_rfl) ?_|fail);(conv=>whnf)))
          exact hn72 _ (p_a, p_m) hc71 (weak_gen [0, 1] rfl rfl (storeLe.cons rfl (objLe.mk id id (by first | exact rowLe_same fun _ _ _ => rfl | (simp; exact rowLe_same fun _ _ _ => rfl))) (storeLe.cons rfl (objLe.mk id id (rowLe_vals (valsLe.cons (cellsLe_refl rfl) valsLe.nil))) storeLe.nil)) (slotsLe.cons (And.intro rfl (AV.Le.refl _)) (slotsLe.cons (And.intro rfl (AV.Le.refl _)) (slotsLe.cons (And.intro rfl (AV.Le.refl _)) (slotsLe.cons (And.intro rfl (AV.Le.refl _)) (slotsLe.cons (And.intro rfl (AV.Le.refl _)) (slotsLe.cons (And.intro rfl (AV.Le.refl _)) (slotsLe.cons (And.intro rfl (AV.Le.refl _)) (slotsLe.cons (And.intro rfl (AV.Le.refl _)) (slotsLe.cons (And.intro rfl (AV.Le.refl _)) slotsLe.nil))))))))))
      · clear hc71 h72
        intro s5 hc74
        ((conv=>whnf);repeat((first|refine Ta ?_|refine Tz mix ?_|refine Tc ?_|refine Tb ?_|refine Td rfl ?_|refine Tl ?_|refine sE rfl ?_|refine dG (by kernel_rfl) ?_|fail);(conv=>whnf)))
        refine bnd hc74 (fun x75 h75 hc74 => ?_)
        refine cut_at (fun s7 : Int => mkF 220 [(0, (.mso 0 p_data_o p_data_n)), (1, (.int .i64 p_a)), (2, (.int .i64 p_m)), (3, (.int .i64 p_b)), (4, (.fn (.func 119) [] [(.mp 1 0 0)])), (18, (.int .i64 (IntKind.wrap .i64 (Int.fdiv (IntKind.wrap .u64 (IntKind.wrap .i64 (p_a + p_b))) 2)))), (19, (.int .i64 (IntKind.wrap .i64 ((IntKind.wrap .i64 (Int.fdiv (IntKind.wrap .u64 (IntKind.wrap .i64 (p_a + p_b))) 2)) + p_m)))), (20, (.int .i64 s7))] [some ⟨1, 21, (.ints .i32 p_data), false, true⟩, some ⟨3, 40, (.vals [(e_api_Norm p_cmp_0)]), false, false⟩]) (fun s7 : Int => m_slices_symMergeCmpFunc_rune_own_K8 p_data p_data_o p_data_n p_a p_m p_b p_cmp_0 rec_ s7 = some r) ?_ ?_
        · intro Kn75 hn75
          ((conv=>whnf);repeat((first|refine Ta ?_|refine Tz mix ?_|refine Tc ?_|refine Tb ?_|refine Td rfl ?_|refine Tl ?_|refine sE rfl ?_|refine dG (by kernel_rfl) ?_|fail);(conv=>whnf)))
          refine loop_iter (fun s23 : Int × Int => mkF 220 [(0, (.mso 0 p_data_o p_data_n)), (1, (.int .i64 p_a)), (2, (.int .i64 p_m)), (3, (.int .i64 p_b)), (4, (.fn (.func 119) [] [(.mp 1 0 0)])), (18, (.int .i64 (IntKind.wrap .i64 (Int.fdiv (IntKind.wrap .u64 (IntKind.wrap .i64 (p_a + p_b))) 2)))), (19, (.int .i64 (IntKind.wrap .i64 ((IntKind.wrap .i64 (Int.fdiv (IntKind.wrap .u64 (IntKind.wrap .i64 (p_a + p_b))) 2)) + p_m)))), (20, (.int .i64 s23.1)), (21, (.int .i64 s23.2)), (22, (.int .i64 (IntKind.wrap .i64 ((IntKind.wrap .i64 ((IntKind.wrap .i64 (Int.fdiv (IntKind.wrap .u64 (IntKind.wrap .i64 (p_a + p_b))) 2)) + p_m)) - (1 : Int)))))] [some ⟨1, 21, (.ints .i32 p_data), false, true⟩, some ⟨3, 40, (.vals [(e_api_Norm p_cmp_0)]), false, false⟩]) h75 (weak_gen [0, 1] rfl rfl (storeLe.cons rfl (objLe.mk id id (by first | exact rowLe_same fun _ _ _ => rfl | (simp; exact rowLe_same fun _ _ _ => rfl))) (storeLe.cons rfl (objLe.mk id id (rowLe_vals (valsLe.cons (cellsLe_refl rfl) valsLe.nil))) storeLe.nil)) (slotsLe.cons (And.intro rfl (AV.Le.refl _)) (slotsLe.cons (And.intro rfl (AV.Le.refl _)) (slotsLe.cons (And.intro rfl (AV.Le.refl _)) (slotsLe.cons (And.intro rfl (AV.Le.refl _)) (slotsLe.cons (And.intro rfl (AV.Le.refl _)) (slotsLe.cons (And.intro rfl (AV.Le.refl _)) (slotsLe.cons (And.intro rfl (AV.Le.refl _)) (slotsLe.cons (And.intro rfl (AV.Le.refl _)) (slotsLe.cons (And.intro rfl (AV.Le.refl _)) (slotsLe.cons (And.intro rfl (AV.Le.refl _)) slotsLe.nil))))))))))) ?_
          intro k25 s23 st25 Kn25 hn25 h25_ hs25
          ((conv=>whnf);repeat((first|refine Ta ?_|refine Tz mix ?_|refine Tc ?_|refine Tb ?_|refine Td rfl ?_|refine Tl ?_|refine sE rfl ?_|refine dG (by kernel_rfl) ?_|fail);(conv=>whnf)))
          refine br_b rfl h25_ (fun c76 h25_ => ?_) (fun c76 h25_ => ?_)
          · ((conv=>whnf);repeat((first|refine Ta ?_|refine Tz mix ?_|refine Tc ?_|refine Tb ?_|refine Td rfl ?_|refine Tl ?_|refine sE rfl ?_|refine dG (by kernel_rfl) ?_|fail);(conv=>whnf)))
            refine And.intro (by decide) ?_
            ((conv=>whnf);repeat((first|refine Ta ?_|refine Tz mix ?_|refine Tc ?_|refine Tb ?_|refine Td rfl ?_|refine Tl ?_|refine sE rfl ?_|refine dG (by kernel_rfl) ?_|fail);(conv=>whnf)))
            refine grd2 rfl rfl h25_ (fun h25_ => ?_)
            ((conv=>whnf);repeat((first|refine Ta ?_|refine Tz mix ?_|refine Tc ?_|refine Tb ?_|refine Td rfl ?_|refine Tl ?_|refine sE rfl ?_|refine dG (by kernel_rfl) ?_|fail);(conv=>whnf)))
            refine grd2 rfl rfl h25_ (fun h25_ => ?_)
            ((conv=>whnf);repeat((first|refine Ta ?_|refine Tz mix ?_|refine Tc ?_|refine Tb ?_|refine Td rfl ?_|refine Tl ?_|refine sE rfl ?_|refine dG (by kernel_rfl) ?_|fail);(conv=>whnf)))
            refine bnd h25_ (fun y26 hy26 h25_ => ?_)
            refine Or.inl ⟨_, c_decomp_Order_1 _ _ _ _ hy26, rfl, ?_⟩
            ((conv=>whnf);repeat((first|refine Ta ?_|refine Tz mix ?_|refine Tc ?_|refine Tb ?_|refine Td rfl ?_|refine Tl ?_|refine sE rfl ?_|refine dG (by kernel_rfl) ?_|fail);(conv=>whnf)))
            refine br_b rfl h25_ (fun c77 h25_ => ?_) (fun c77 h25_ => ?_)
            · have e := Option.some.inj h25_; subst e
              ((conv=>whnf);repeat((first|refine Ta ?_|refine Tz mix ?_|refine Tc ?_|refine Tb ?_|refine Td rfl ?_|refine Tl ?_|refine sE rfl ?_|refine dG (by kernel_rfl) ?_|fail);(conv=>whnf)))
              exact hn25 _ ((IntKind.wrap .i64 ((IntKind.wrap .i64 (Int.fdiv (IntKind.wrap .u64 (IntKind.wrap .i64 (s23.1 + s23.2))) 2)) + (1 : Int))), s23.2) hs25 (weak_gen [0, 1] rfl rfl (storeLe.cons rfl (objLe.mk id id (by first | exact rowLe_same fun _ _ _ => rfl | (simp; exact rowLe_same fun _ _ _ => rfl))) (storeLe.cons rfl (objLe.mk id id (rowLe_vals (valsLe.cons (cellsLe_refl rfl) valsLe.nil))) storeLe.nil)) (slotsLe.cons (And.intro rfl (AV.Le.refl _)) (slotsLe.cons (And.intro rfl (AV.Le.refl _)) (slotsLe.cons (And.intro rfl (AV.Le.refl _)) (slotsLe.cons (And.intro rfl (AV.Le.refl _)) (slotsLe.cons (And.intro rfl (AV.Le.refl _)) (slotsLe.cons (And.intro rfl (AV.Le.refl _)) (slotsLe.cons (And.intro rfl (AV.Le.refl _)) (slotsLe.cons (And.intro rfl (AV.Le.refl _)) (slotsLe.cons (And.intro rfl (AV.Le.refl _)) (slotsLe.cons (And.intro rfl (AV.Le.refl _)) slotsLe.nil)))))))))))
            · have e := Option.some.inj h25_; subst e
              ((conv=>whnf);repeat((first|refine Ta ?_|refine Tz mix ?_|refine Tc ?_|refine Tb ?_|refine Td rfl ?_|refine Tl ?_|refine sE rfl ?_|refine dG (by kernel_rfl) ?_|fail);(conv=>whnf)))
              exact hn25 _ (s23.1, (IntKind.wrap .i64 (Int.fdiv (IntKind.wrap .u64 (IntKind.wrap .i64 (s23.1 + s23.2))) 2))) hs25 (weak_gen [0, 1] rfl rfl (storeLe.cons rfl (objLe.mk id id (by first | exact rowLe_same fun _ _ _ => rfl | (simp; exact rowLe_same fun _ _ _ => rfl))) (storeLe.cons rfl (objLe.mk id id (rowLe_vals (valsLe.cons (cellsLe_refl rfl) valsLe.nil))) storeLe.nil)) (slotsLe.cons (And.intro rfl (AV.Le.refl _)) (slotsLe.cons (And.intro rfl (AV.Le.refl _)) (slotsLe.cons (And.intro rfl (AV.Le.refl _)) (slotsLe.cons (And.intro rfl (AV.Le.refl _)) (slotsLe.cons (And.intro rfl (AV.Le.refl _)) (slotsLe.cons (And.intro rfl (AV.Le.refl _)) (slotsLe.cons (And.intro rfl (AV.Le.refl _)) (slotsLe.cons (And.intro rfl (AV.Le.refl _)) (slotsLe.cons (And.intro rfl (AV.Le.refl _)) (slotsLe.cons (And.intro rfl (AV.Le.refl _)) slotsLe.nil)))))))))))
          · have e := Option.some.inj h25_; subst e
            have e := done_out hs25; subst e
            ((conv=>whnf);repeat((first|refine Ta ?_|refine Tz mix ?_|refine Tc ?_|refine Tb ?_|refine Td rfl ?_|refine Tl ?_|refine sE rfl ?_|refine dG (by kernel_rfl) ?_|fail);(conv=>whnf)))
            exact hn75 _ s23.1 hc74 (weak_gen [0, 1] rfl rfl (storeLe.cons rfl (objLe.mk id id (by first | exact rowLe_same fun _ _ _ => rfl | (simp; exact rowLe_same fun _ _ _ => rfl))) (storeLe.cons rfl (objLe.mk id id (rowLe_vals (valsLe.cons (cellsLe_refl rfl) valsLe.nil))) storeLe.nil)) (slotsLe.cons (And.intro rfl (AV.Le.refl _)) (slotsLe.cons (And.intro rfl (AV.Le.refl _)) (slotsLe.cons (And.intro rfl (AV.Le.refl _)) (slotsLe.cons (And.intro rfl (AV.Le.refl _)) (slotsLe.cons (And.intro rfl (AV.Le.refl _)) (slotsLe.cons (And.intro rfl (AV.Le.refl _)) (slotsLe.cons (And.intro rfl (AV.Le.refl _)) (slotsLe.cons (And.intro rfl (AV.Le.refl _)) slotsLe.nil)))))))))
        · clear hc74 h75
          intro s7 hc78
          ((conv=>whnf);repeat((first|refine Ta ?_|refine Tz mix ?_|refine Tc ?_|refine Tb ?_|refine Td rfl ?_|refine Tl ?_|refine sE rfl ?_|refine dG (by kernel_rfl) ?_|fail);(conv=>whnf)))
          refine bnd hc78 (fun x79 h79 hc78 => ?_)
          refine cut_at (fun s9 : (List Int) => mkF 220 [(0, (.mso 0 p_data_o p_data_n)), (1, (.int .i64 p_a)), (3, (.int .i64 p_b)), (4, (.fn (.func 119) [] [(.mp 1 0 0)])), (18, (.int .i64 (IntKind.wrap .i64 (Int.fdiv (IntKind.wrap .u64 (IntKind.wrap .i64 (p_a + p_b))) 2)))), (20, (.int .i64 s7)), (24, (.int .i64 (IntKind.wrap .i64 ((IntKind.wrap .i64 ((IntKind.wrap .i64 (Int.fdiv (IntKind.wrap .u64 (IntKind.wrap .i64 (p_a + p_b))) 2)) + p_m)) - s7))))] [some ⟨1, 21, (.ints .i32 s9), false, true⟩, some ⟨3, 40, (.vals [(e_api_Norm p_cmp_0)]), false, false⟩]) (fun s9 : (List Int) => m_slices_symMergeCmpFunc_rune_own_K10 p_data_o p_data_n p_a p_m p_b p_cmp_0 rec_ s7 s9 = some r) ?_ ?_
          · intro Kn79 hn79
            ((conv=>whnf);repeat((first|refine Ta ?_|refine Tz mix ?_|refine Tc ?_|refine Tb ?_|refine Td rfl ?_|refine Tl ?_|refine sE rfl ?_|refine dG (by kernel_rfl) ?_|fail);(conv=>whnf)))
            refine bnd h79 (fun x80 h80 h79 => ?_)
            refine cut_at (fun s19 : Bool => mkF 220 [(0, (.mso 0 p_data_o p_data_n)), (1, (.int .i64 p_a)), (2, (.int .i64 p_m)), (3, (.int .i64 p_b)), (4, (.fn (.func 119) [] [(.mp 1 0 0)])), (18, (.int .i64 (IntKind.wrap .i64 (Int.fdiv (IntKind.wrap .u64 (IntKind.wrap .i64 (p_a + p_b))) 2)))), (20, (.int .i64 s7)), (24, (.int .i64 (IntKind.wrap .i64 ((IntKind.wrap .i64 ((IntKind.wrap .i64 (Int.fdiv (IntKind.wrap .u64 (IntKind.wrap .i64 (p_a + p_b))) 2)) + p_m)) - s7)))), (185, (.bool s19))] [some ⟨1, 21, (.ints .i32 p_data), false, true⟩, some ⟨3, 40, (.vals [(e_api_Norm p_cmp_0)]), false, false⟩]) (fun s19 : Bool => m_slices_symMergeCmpFunc_rune_own_K20 p_data p_data_o p_data_n p_a p_m p_b p_cmp_0 s7 s19 = some x79) ?_ ?_
            · intro Kn80 hn80
              ((conv=>whnf);repeat((first|refine Ta ?_|refine Tz mix ?_|refine Tc ?_|refine Tb ?_|refine Td rfl ?_|refine Tl ?_|refine sE rfl ?_|refine dG (by kernel_rfl) ?_|fail);(conv=>whnf)))
              refine br_b rfl h80 (fun c81 h80 => ?_) (fun c81 h80 => ?_)
              · have e := Option.some.inj h80; subst e
                ((conv=>whnf);repeat((first|refine Ta ?_|refine Tz mix ?_|refine Tc ?_|refine Tb ?_|refine Td rfl ?_|refine Tl ?_|refine sE rfl ?_|refine dG (by kernel_rfl) ?_|fail);(conv=>whnf)))
                exact hn80 _ (decide (p_m < (IntKind.wrap .i64 ((IntKind.wrap .i64 ((IntKind.wrap .i64 (Int.fdiv (IntKind.wrap .u64 (IntKind.wrap .i64 (p_a + p_b))) 2)) + p_m)) - s7)))) h79 (weak_gen [0, 1] rfl rfl (storeLe.cons rfl (objLe.mk id id (by first | exact rowLe_same fun _ _ _ => rfl | (simp; exact rowLe_same fun _ _ _ => rfl))) (storeLe.cons rfl (objLe.mk id id (rowLe_vals (valsLe.cons (cellsLe_refl rfl) valsLe.nil))) storeLe.nil)) (slotsLe.cons (And.intro rfl (AV.Le.refl _)) (slotsLe.cons (And.intro rfl (AV.Le.refl _)) (slotsLe.cons (And.intro rfl (AV.Le.refl _)) (slotsLe.cons (And.intro rfl (AV.Le.refl _)) (slotsLe.cons (And.intro rfl (AV.Le.refl _)) (slotsLe.cons (And.intro rfl (AV.Le.refl _)) (slotsLe.cons (And.intro rfl (AV.Le.refl _)) (slotsLe.cons (And.intro rfl (AV.Le.refl _)) (slotsLe.cons (And.intro rfl (AV.Le.refl _)) slotsLe.nil))))))))))
              · have e := Option.some.inj h80; subst e
                ((conv=>whnf);repeat((first|refine Ta ?_|refine Tz mix ?_|refine Tc ?_|refine Tb ?_|refine Td rfl ?_|refine Tl ?_|refine sE rfl ?_|refine dG (by kernel_rfl) ?_|fail);(conv=>whnf)))
                exact hn80 _ false h79 (weak_gen [0, 1] rfl rfl (storeLe.cons rfl (objLe.mk id id (by first | exact rowLe_same fun _ _ _ => rfl | (simp; exact rowLe_same fun _ _ _ => rfl))) (storeLe.cons rfl (objLe.mk id id (rowLe_vals (valsLe.cons (cellsLe_refl rfl) valsLe.nil))) storeLe.nil)) (slotsLe.cons (And.intro rfl (AV.Le.refl _)) (slotsLe.cons (And.intro rfl (AV.Le.refl _)) (slotsLe.cons (And.intro rfl (AV.Le.refl _)) (slotsLe.cons (And.intro rfl (AV.Le.refl _)) (slotsLe.cons (And.intro rfl (AV.Le.refl _)) (slotsLe.cons (And.intro rfl (AV.Le.refl _)) (slotsLe.cons (And.intro rfl (AV.Le.refl _)) (slotsLe.cons (And.intro rfl (AV.Le.refl _)) (slotsLe.cons (And.intro rfl (AV.Le.refl _)) slotsLe.nil))))))))))
            · clear h79 h80
              intro s19 hc82
              ((conv=>whnf);repeat((first|refine Ta ?_|refine Tz mix ?_|refine Tc ?_|refine Tb ?_|refine Td rfl ?_|refine Tl ?_|refine sE rfl ?_|refine dG (by kernel_rfl) ?_|fail);(conv=>whnf)))
              refine br_b rfl hc82 (fun c83 hc82 => ?_) (fun c83 hc82 => ?_)
              · ((conv=>whnf);repeat((first|refine Ta ?_|refine Tz mix ?_|refine Tc ?_|refine Tb ?_|refine Td rfl ?_|refine Tl ?_|refine sE rfl ?_|refine dG (by kernel_rfl) ?_|fail);(conv=>whnf)))
                refine bnd hc82 (fun y21 hy21 hc82 => ?_)
                refine own_intro (own_call [0, 1] (c_slices_rotateCmpFunc_rune_own _ _ _ _ _ _ _ _ hy21) rfl (storeLe.cons rfl (objLe.mk id id (rowLe_ints (by first | rfl | simp))) (storeLe.cons rfl (objLe.mk id id (rowLe_vals (valsLe.cons (cellsLe_refl rfl) valsLe.nil))) storeLe.nil)) (cellsLe.cons (And.intro rfl (AV.Le.refl _)) (cellsLe.cons (And.intro rfl (AV.Le.refl _)) (cellsLe.cons (And.intro rfl (AV.Le.refl _)) (cellsLe.cons (And.intro rfl (AV.Le.refl _)) (cellsLe.cons (And.intro rfl (AV.Le.refl _)) cellsLe.nil))))) rfl) ?_
                ((conv=>whnf);repeat((first|refine Ta ?_|refine Tz mix ?_|refine Tc ?_|refine Tb ?_|refine Td rfl ?_|refine Tl ?_|refine sE rfl ?_|refine dG (by kernel_rfl) ?_|fail);(conv=>whnf)))
                obtain ⟨p84, hc82⟩ := grdO hc82
                have e := Option.some.inj hc82; subst e
                ((conv=>whnf);repeat((first|refine Ta ?_|refine Tz mix ?_|refine Tc ?_|refine Tb ?_|refine Td rfl ?_|refine Tl ?_|refine sE rfl ?_|refine dG (by kernel_rfl) ?_|fail);(conv=>whnf)))
                exact hn79 _ y21 hc78 (weak_gen [0, 1] rfl rfl (storeLe.cons rfl (objLe.mk id id (rowLe_ints (by first | rfl | simp))) (storeLe.cons rfl (objLe.mk id id (rowLe_vals (valsLe.cons (cellsLe_refl rfl) valsLe.nil))) storeLe.nil)) (slotsLe.cons (And.intro rfl (AV.Le.refl _)) (slotsLe.cons (And.intro rfl (AV.Le.refl _)) (slotsLe.cons (And.intro rfl (AV.Le.refl _)) (slotsLe.cons (And.intro rfl (AV.Le.refl _)) (slotsLe.cons (And.intro rfl (AV.Le.refl _)) (slotsLe.cons (And.intro rfl (AV.Le.refl _)) (slotsLe.cons (And.intro rfl (AV.Le.refl _)) slotsLe.nil))))))))
              · have e := Option.some.inj hc82; subst e
                ((conv=>whnf);repeat((first|refine Ta ?_|refine Tz mix ?_|refine Tc ?_|refine Tb ?_|refine Td rfl ?_|refine Tl ?_|refine sE rfl ?_|refine dG (by kernel_rfl) ?_|fail);(conv=>whnf)))
                exact hn79 _ p_data hc78 (weak_gen [0, 1] rfl rfl (storeLe.cons rfl (objLe.mk id id (rowLe_ints (by first | rfl | simp))) (storeLe.cons rfl (objLe.mk id id (rowLe_vals (valsLe.cons (cellsLe_refl rfl) valsLe.nil))) storeLe.nil)) (slotsLe.cons (And.intro rfl (AV.Le.refl _)) (slotsLe.cons (And.intro rfl (AV.Le.refl _)) (slotsLe.cons (And.intro rfl (AV.Le.refl _)) (slotsLe.cons (And.intro rfl (AV.Le.refl _)) (slotsLe.cons (And.intro rfl (AV.Le.refl _)) (slotsLe.cons (And.intro rfl (AV.Le.refl _)) (slotsLe.cons (And.intro rfl (AV.Le.refl _)) slotsLe.nil))))))))
          · clear hc78 h79
            intro s9 hc85
            ((conv=>whnf);repeat((first|refine Ta ?_|refine Tz mix ?_|refine Tc ?_|refine Tb ?_|refine Td rfl ?_|refine Tl ?_|refine sE rfl ?_|refine dG (by kernel_rfl) ?_|fail);(conv=>whnf)))
            refine bnd hc85 (fun x86 h86 hc85 => ?_)
            refine cut_at (fun s11 : (List Int) => mkF 220 [(0, (.mso 0 p_data_o p_data_n)), (3, (.int .i64 p_b)), (4, (.fn (.func 119) [] [(.mp 1 0 0)])), (18, (.int .i64 (IntKind.wrap .i64 (Int.fdiv (IntKind.wrap .u64 (IntKind.wrap .i64 (p_a + p_b))) 2)))), (24, (.int .i64 (IntKind.wrap .i64 ((IntKind.wrap .i64 ((IntKind.wrap .i64 (Int.fdiv (IntKind.wrap .u64 (IntKind.wrap .i64 (p_a + p_b))) 2)) + p_m)) - s7))))] [some ⟨1, 21, (.ints .i32 s11), false, true⟩, some ⟨3, 40, (.vals [(e_api_Norm p_cmp_0)]), false, false⟩]) (fun s11 : (List Int) => m_slices_symMergeCmpFunc_rune_own_K12 p_data_o p_data_n p_a p_m p_b p_cmp_0 rec_ s7 s11 = some r) ?_ ?_
            · intro Kn86 hn86
              ((conv=>whnf);repeat((first|refine Ta ?_|refine Tz mix ?_|refine Tc ?_|refine Tb ?_|refine Td rfl ?_|refine Tl ?_|refine sE rfl ?_|refine dG (by kernel_rfl) ?_|fail);(conv=>whnf)))
              refine bnd h86 (fun x87 h87 h86 => ?_)
              refine cut_at (fun s16 : Bool => mkF 220 [(0, (.mso 0 p_data_o p_data_n)), (1, (.int .i64 p_a)), (3, (.int .i64 p_b)), (4, (.fn (.func 119) [] [(.mp 1 0 0)])), (18, (.int .i64 (IntKind.wrap .i64 (Int.fdiv (IntKind.wrap .u64 (IntKind.wrap .i64 (p_a + p_b))) 2)))), (20, (.int .i64 s7)), (24, (.int .i64 (IntKind.wrap .i64 ((IntKind.wrap .i64 ((IntKind.wrap .i64 (Int.fdiv (IntKind.wrap .u64 (IntKind.wrap .i64 (p_a + p_b))) 2)) + p_m)) - s7)))), (199, (.bool s16))] [some ⟨1, 21, (.ints .i32 s9), false, true⟩, some ⟨3, 40, (.vals [(e_api_Norm p_cmp_0)]), false, false⟩]) (fun s16 : Bool => m_slices_symMergeCmpFunc_rune_own_K17 p_data_o p_data_n p_a p_b p_cmp_0 rec_ s7 s9 s16 = some x86) ?_ ?_
              · intro Kn87 hn87
                ((conv=>whnf);repeat((first|refine Ta ?_|refine Tz mix ?_|refine Tc ?_|refine Tb ?_|refine Td rfl ?_|refine Tl ?_|refine sE rfl ?_|refine dG (by kernel_rfl) ?_|fail);(conv=>whnf)))
                refine br_b rfl h87 (fun c88 h87 => ?_) (fun c88 h87 => ?_)
                · have e := Option.some.inj h87; subst e
                  ((conv=>whnf);repeat((first|refine Ta ?_|refine Tz mix ?_|refine Tc ?_|refine Tb ?_|refine Td rfl ?_|refine Tl ?_|refine sE rfl ?_|refine dG (by kernel_rfl) ?_|fail);(conv=>whnf)))
                  exact hn87 _ (decide (s7 < (IntKind.wrap .i64 (Int.fdiv (IntKind.wrap .u64 (IntKind.wrap .i64 (p_a + p_b))) 2)))) h86 (weak_gen [0, 1] rfl rfl (storeLe.cons rfl (objLe.mk id id (by first | exact rowLe_same fun _ _ _ => rfl | (simp; exact rowLe_same fun _ _ _ => rfl))) (storeLe.cons rfl (objLe.mk id id (rowLe_vals (valsLe.cons (cellsLe_refl rfl) valsLe.nil))) storeLe.nil)) (slotsLe.cons (And.intro rfl (AV.Le.refl _)) (slotsLe.cons (And.intro rfl (AV.Le.refl _)) (slotsLe.cons (And.intro rfl (AV.Le.refl _)) (slotsLe.cons (And.intro rfl (AV.Le.refl _)) (slotsLe.cons (And.intro rfl (AV.Le.refl _)) (slotsLe.cons (And.intro rfl (AV.Le.refl _)) (slotsLe.cons (And.intro rfl (AV.Le.refl _)) (slotsLe.cons (And.intro rfl (AV.Le.refl _)) slotsLe.nil)))))))))
                · have e := Option.some.inj h87; subst e
                  ((conv=>whnf);repeat((first|refine Ta ?_|refine Tz mix ?_|refine Tc ?_|refine Tb ?_|refine Td rfl ?_|refine Tl ?_|refine sE rfl ?_|refine dG (by kernel_rfl) ?_|fail);(conv=>whnf)))
                  exact hn87 _ false h86 (weak_gen [0, 1] rfl rfl (storeLe.cons rfl (objLe.mk id id (by first | exact rowLe_same fun _ _ _ => rfl | (simp; exact rowLe_same fun _ _ _ => rfl))) (storeLe.cons rfl (objLe.mk id id (rowLe_vals (valsLe.cons (cellsLe_refl rfl) valsLe.nil))) storeLe.nil)) (slotsLe.cons (And.intro rfl (AV.Le.refl _)) (slotsLe.cons (And.intro rfl (AV.Le.refl _)) (slotsLe.cons (And.intro rfl (AV.Le.refl _)) (slotsLe.cons (And.intro rfl (AV.Le.refl _)) (slotsLe.cons (And.intro rfl (AV.Le.refl _)) (slotsLe.cons (And.intro rfl (AV.Le.refl _)) (slotsLe.cons (And.intro rfl (AV.Le.refl _)) (slotsLe.cons (And.intro rfl (AV.Le.refl _)) slotsLe.nil)))))))))
              · clear h86 h87
                intro s16 hc89
                ((conv=>whnf);repeat((first|refine Ta ?_|refine Tz mix ?_|refine Tc ?_|refine Tb ?_|refine Td rfl ?_|refine Tl ?_|refine sE rfl ?_|refine dG (by kernel_rfl) ?_|fail);(conv=>whnf)))
                refine br_b rfl hc89 (fun c90 hc89 => ?_) (fun c90 hc89 => ?_)
                · ((conv=>whnf);repeat((first|refine Ta ?_|refine Tz mix ?_|refine Tc ?_|refine Tb ?_|refine Td rfl ?_|refine Tl ?_|refine sE rfl ?_|refine dG (by kernel_rfl) ?_|fail);(conv=>whnf)))
                  refine bnd hc89 (fun y18 hy18 hc89 => ?_)
                  refine own_intro (own_call [0, 1] (hrec _ _ _ _ _ _ _ _ hy18) rfl (storeLe.cons rfl (objLe.mk id id (rowLe_ints (by first | rfl | simp))) (storeLe.cons rfl (objLe.mk id id (rowLe_vals (valsLe.cons (cellsLe_refl rfl) valsLe.nil))) storeLe.nil)) (cellsLe.cons (And.intro rfl (AV.Le.refl _)) (cellsLe.cons (And.intro rfl (AV.Le.refl _)) (cellsLe.cons (And.intro rfl (AV.Le.refl _)) (cellsLe.cons (And.intro rfl (AV.Le.refl _)) (cellsLe.cons (And.intro rfl (AV.Le.refl _)) cellsLe.nil))))) rfl) ?_
                  ((conv=>whnf);repeat((first|refine Ta ?_|refine Tz mix ?_|refine Tc ?_|refine Tb ?_|refine Td rfl ?_|refine Tl ?_|refine sE rfl ?_|refine dG (by kernel_rfl) ?_|fail);(conv=>whnf)))
                  obtain ⟨p91, hc89⟩ := grdO hc89
                  have e := Option.some.inj hc89; subst e
                  ((conv=>whnf);repeat((first|refine Ta ?_|refine Tz mix ?_|refine Tc ?_|refine Tb ?_|refine Td rfl ?_|refine Tl ?_|refine sE rfl ?_|refine dG (by kernel_rfl) ?_|fail);(conv=>whnf)))
                  exact hn86 _ y18 hc85 (weak_gen [0, 1] rfl rfl (storeLe.cons rfl (objLe.mk id id (rowLe_ints (by first | rfl | simp))) (storeLe.cons rfl (objLe.mk id id (rowLe_vals (valsLe.cons (cellsLe_refl rfl) valsLe.nil))) storeLe.nil)) (slotsLe.cons (And.intro rfl (AV.Le.refl _)) (slotsLe.cons (And.intro rfl (AV.Le.refl _)) (slotsLe.cons (And.intro rfl (AV.Le.refl _)) (slotsLe.cons (And.intro rfl (AV.Le.refl _)) (slotsLe.cons (And.intro rfl (AV.Le.refl _)) slotsLe.nil))))))
                · have e := Option.some.inj hc89; subst e
                  ((conv=>whnf);repeat((first|refine Ta ?_|refine Tz mix ?_|refine Tc ?_|refine Tb ?_|refine Td rfl ?_|refine Tl ?_|refine sE rfl ?_|refine dG (by kernel_rfl) ?_|fail);(conv=>whnf)))
                  exact hn86 _ s9 hc85 (weak_gen [0, 1] rfl rfl (storeLe.cons rfl (objLe.mk id id (rowLe_ints (by first | rfl | simp))) (storeLe.cons rfl (objLe.mk id id (rowLe_vals (valsLe.cons (cellsLe_refl rfl) valsLe.nil))) storeLe.nil)) (slotsLe.cons (And.intro rfl (AV.Le.refl _)) (slotsLe.cons (And.intro rfl (AV.Le.refl _)) (slotsLe.cons (And.intro rfl (AV.Le.refl _)) (slotsLe.cons (And.intro rfl (AV.Le.refl _)) (slotsLe.cons (And.intro rfl (AV.Le.refl _)) slotsLe.nil))))))
            · clear hc85 h86
              intro s11 hc92
              ((conv=>whnf);repeat((first|refine Ta ?_|refine Tz mix ?_|refine Tc ?_|refine Tb ?_|refine Td rfl ?_|refine Tl ?_|refine sE rfl ?_|refine dG (by kernel_rfl) ?_|fail);(conv=>whnf)))
              refine bnd hc92 (fun x93 h93 hc92 => ?_)
              refine cut_at (fun s13 : Bool => mkF 220 [(0, (.mso 0 p_data_o p_data_n)), (3, (.int .i64 p_b)), (4, (.fn (.func 119) [] [(.mp 1 0 0)])), (18, (.int .i64 (IntKind.wrap .i64 (Int.fdiv (IntKind.wrap .u64 (IntKind.wrap .i64 (p_a + p_b))) 2)))), (24, (.int .i64 (IntKind.wrap .i64 ((IntKind.wrap .i64 ((IntKind.wrap .i64 (Int.fdiv (IntKind.wrap .u64 (IntKind.wrap .i64 (p_a + p_b))) 2)) + p_m)) - s7)))), (213, (.bool s13))] [some ⟨1, 21, (.ints .i32 s11), false, true⟩, some ⟨3, 40, (.vals [(e_api_Norm p_cmp_0)]), false, false⟩]) (fun s13 : Bool => m_slices_symMergeCmpFunc_rune_own_K14 p_data_o p_data_n p_a p_m p_b p_cmp_0 rec_ s7 s11 s13 = some r) ?_ ?_
              · intro Kn93 hn93
                ((conv=>whnf);repeat((first|refine Ta ?_|refine Tz mix ?_|refine Tc ?_|refine Tb ?_|refine Td rfl ?_|refine Tl ?_|refine sE rfl ?_|refine dG (by kernel_rfl) ?_|fail);(conv=>whnf)))
                refine br_b rfl h93 (fun c94 h93 => ?_) (fun c94 h93 => ?_)
                · have e := Option.some.inj h93; subst e
                  ((conv=>whnf);repeat((first|refine Ta ?_|refine Tz mix ?_|refine Tc ?_|refine Tb ?_|refine Td rfl ?_|refine Tl ?_|refine sE rfl ?_|refine dG (by kernel_rfl) ?_|fail);(conv=>whnf)))
                  exact hn93 _ (decide ((IntKind.wrap .i64 ((IntKind.wrap .i64 ((IntKind.wrap .i64 (Int.fdiv (IntKind.wrap .u64 (IntKind.wrap .i64 (p_a + p_b))) 2)) + p_m)) - s7)) < p_b)) hc92 (weak_gen [0, 1] rfl rfl (storeLe.cons rfl (objLe.mk id id (by first | exact rowLe_same fun _ _ _ => rfl | (simp; exact rowLe_same fun _ _ _ => rfl))) (storeLe.cons rfl (objLe.mk id id (rowLe_vals (valsLe.cons (cellsLe_refl rfl) valsLe.nil))) storeLe.nil)) (slotsLe.cons (And.intro rfl (AV.Le.refl _)) (slotsLe.cons (And.intro rfl (AV.Le.refl _)) (slotsLe.cons (And.intro rfl (AV.Le.refl _)) (slotsLe.cons (And.intro rfl (AV.Le.refl _)) (slotsLe.cons (And.intro rfl (AV.Le.refl _)) (slotsLe.cons (And.intro rfl (AV.Le.refl _)) slotsLe.nil)))))))
                · have e := Option.some.inj h93; subst e
                  ((conv=>whnf);repeat((first|refine Ta ?_|refine Tz mix ?_|refine Tc ?_|refine Tb ?_|refine Td rfl ?_|refine Tl ?_|refine sE rfl ?_|refine dG (by kernel_rfl) ?_|fail);(conv=>whnf)))
                  exact hn93 _ false hc92 (weak_gen [0, 1] rfl rfl (storeLe.cons rfl (objLe.mk id id (by first | exact rowLe_same fun _ _ _ => rfl | (simp; exact rowLe_same fun _ _ _ => rfl))) (storeLe.cons rfl (objLe.mk id id (rowLe_vals (valsLe.cons (cellsLe_refl rfl) valsLe.nil))) storeLe.nil)) (slotsLe.cons (And.intro rfl (AV.Le.refl _)) (slotsLe.cons (And.intro rfl (AV.Le.refl _)) (slotsLe.cons (And.intro rfl (AV.Le.refl _)) (slotsLe.cons (And.intro rfl (AV.Le.refl _)) (slotsLe.cons (And.intro rfl (AV.Le.refl _)) (slotsLe.cons (And.intro rfl (AV.Le.refl _)) slotsLe.nil)))))))
              · clear hc92 h93
                intro s13 hc95
                ((conv=>whnf);repeat((first|refine Ta ?_|refine Tz mix ?_|refine Tc ?_|refine Tb ?_|refine Td rfl ?_|refine Tl ?_|refine sE rfl ?_|refine dG (by kernel_rfl) ?_|fail);(conv=>whnf)))
                refine br_b rfl hc95 (fun c96 hc95 => ?_) (fun c96 hc95 => ?_)
                · ((conv=>whnf);repeat((first|refine Ta ?_|refine Tz mix ?_|refine Tc ?_|refine Tb ?_|refine Td rfl ?_|refine Tl ?_|refine sE rfl ?_|refine dG (by kernel_rfl) ?_|fail);(conv=>whnf)))
                  refine bnd hc95 (fun y15 hy15 hc95 => ?_)
                  refine own_intro (own_call [0, 1] (hrec _ _ _ _ _ _ _ _ hy15) rfl (storeLe.cons rfl (objLe.mk id id (rowLe_ints (by first | rfl | simp))) (storeLe.cons rfl (objLe.mk id id (rowLe_vals (valsLe.cons (cellsLe_refl rfl) valsLe.nil))) storeLe.nil)) (cellsLe.cons (And.intro rfl (AV.Le.refl _)) (cellsLe.cons (And.intro rfl (AV.Le.refl _)) (cellsLe.cons (And.intro rfl (AV.Le.refl _)) (cellsLe.cons (And.intro rfl (AV.Le.refl _)) (cellsLe.cons (And.intro rfl (AV.Le.refl _)) cellsLe.nil))))) rfl) ?_
                  ((conv=>whnf);repeat((first|refine Ta ?_|refine Tz mix ?_|refine Tc ?_|refine Tb ?_|refine Td rfl ?_|refine Tl ?_|refine sE rfl ?_|refine dG (by kernel_rfl) ?_|fail);(conv=>whnf)))
                  obtain ⟨p97, hc95⟩ := grdO hc95
                  have e := Option.some.inj hc95; subst e
                  ((conv=>whnf);repeat((first|refine Ta ?_|refine Tz mix ?_|refine Tc ?_|refine Tb ?_|refine Td rfl ?_|refine Tl ?_|refine sE rfl ?_|refine dG (by kernel_rfl) ?_|fail);(conv=>whnf)))
                  exact Or.inr (Or.inr (weak_gen [0, 1] rfl rfl (storeLe.cons rfl (objLe.mk id id (rowLe_ints (by first | rfl | simp))) (storeLe.cons rfl (objLe.mk id id (rowLe_vals (valsLe.cons (cellsLe_refl rfl) valsLe.nil))) storeLe.nil)) (slotsLe.cons (And.intro rfl (AV.Le.refl _)) slotsLe.nil)))
                · have e := Option.some.inj hc95; subst e
                  ((conv=>whnf);repeat((first|refine Ta ?_|refine Tz mix ?_|refine Tc ?_|refine Tb ?_|refine Td rfl ?_|refine Tl ?_|refine sE rfl ?_|refine dG (by kernel_rfl) ?_|fail);(conv=>whnf)))
                  exact Or.inr (Or.inr (weak_gen [0, 1] rfl rfl (storeLe.cons rfl (objLe.mk id id (rowLe_ints (by first | rfl | simp))) (storeLe.cons rfl (objLe.mk id id (rowLe_vals (valsLe.cons (cellsLe_refl rfl) valsLe.nil))) storeLe.nil)) (slotsLe.cons (And.intro rfl (AV.Le.refl _)) slotsLe.nil)))
theorem c_slices_symMergeCmpFunc_rune_own_n : ∀ (n : Nat) (p_data : (List Int)) (p_data_o : Nat) (p_data_n : Nat) (p_a : Int) (p_m : Int) (p_b : Int) (p_cmp_0 : T_api_Norm) (r : (List Int)), m_slices_symMergeCmpFunc_rune_own_n n p_data p_data_o p_data_n p_a p_m p_b p_cmp_0 = some r → ContractM 2 pl 171 [(.mso 0 p_data_o p_data_n), (.int .i64 p_a), (.int .i64 p_m), (.int .i64 p_b), (.fn (.func 119) [] [(.mp 1 0 0)])] [some ⟨1, 21, (.ints .i32 p_data), false, true⟩, some ⟨3, 40, (.vals [(e_api_Norm p_cmp_0)]), false, false⟩] (.tup []) [some ⟨1, 21, (.ints .i32 r), false, true⟩, some ⟨3, 40, (.vals [(e_api_Norm p_cmp_0)]), false, false⟩]
  | 0, _, _, _, _, _, _, _, _, h => by cases h
  | n + 1, p_data, p_data_o, p_data_n, p_a, p_m, p_b, p_cmp_0, r, h => c_slices_symMergeCmpFunc_rune_own_body (m_slices_symMergeCmpFunc_rune_own_n n) (c_slices_symMergeCmpFunc_rune_own_n n) p_data p_data_o p_data_n p_a p_m p_b p_cmp_0 r h
theorem c_slices_symMergeCmpFunc_rune_own (p_data : (List Int)) (p_data_o : Nat) (p_data_n : Nat) (p_a : Int) (p_m : Int) (p_b : Int) (p_cmp_0 : T_api_Norm) (r : (List Int)) (h : m_slices_symMergeCmpFunc_rune_own p_data p_data_o p_data_n p_a p_m p_b p_cmp_0 = some r) : ContractM 2 pl 171 [(.mso 0 p_data_o p_data_n), (.int .i64 p_a), (.int .i64 p_m), (.int .i64 p_b), (.fn (.func 119) [] [(.mp 1 0 0)])] [some ⟨1, 21, (.ints .i32 p_data), false, true⟩, some ⟨3, 40, (.vals [(e_api_Norm p_cmp_0)]), false, false⟩] (.tup []) [some ⟨1, 21, (.ints .i32 r), false, true⟩, some ⟨3, 40, (.vals [(e_api_Norm p_cmp_0)]), false, false⟩] := by
  unfold m_slices_symMergeCmpFunc_rune_own at h
  split at h
  · exact c_slices_symMergeCmpFunc_rune_own_n _ p_data p_data_o p_data_n p_a p_m p_b p_cmp_0 r h
  · cases h
end Go.Proofs.YtjhgaacecfmadaaDoor
