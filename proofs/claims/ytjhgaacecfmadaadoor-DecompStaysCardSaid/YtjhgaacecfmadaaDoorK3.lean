/- Contracts of functions, walked by their models; printed by a program of ours. No condition. -/
import Derived.Test.YtjhgaacecfmadaaDoorK2
import Derived.Test.YtjhgaacecfmadaaDoorProg
import Derived.KernelRfl
namespace Go.Proofs.YtjhgaacecfmadaaDoor
open Go Go.SE
set_option linter.unusedVariables false
set_option linter.unusedSimpArgs false
set_option maxRecDepth 10000
set_option maxHeartbeats 2000000
attribute [local irreducible] Contract iter
theorem c_slices_stableCmpFunc_rune_own (p_data : (List Int)) (p_data_o : Nat) (p_data_n : Nat) (p_n : Int) (p_cmp_0 : T_api_Norm) (r : (List Int)) (h : m_slices_stableCmpFunc_rune_own p_data p_data_o p_data_n p_n p_cmp_0 = some r) : ContractM 2 pl 156 [(.mso 0 p_data_o p_data_n), (.int .i64 p_n), (.fn (.func 119) [] [(.mp 1 0 0)])] [some ⟨1, 21, (.ints .i32 p_data), false, true⟩, some ⟨3, 40, (.vals [(e_api_Norm p_cmp_0)]), false, false⟩] (.tup []) [some ⟨1, 21, (.ints .i32 r), false, true⟩, some ⟨3, 40, (.vals [(e_api_Norm p_cmp_0)]), false, false⟩] := by
  refine contract_own 2 (.t false .z (.t false .z (.t true .z (.t false .z (.t false (.t false (.t false .z (.t false (.t false .z (.t true .z .z)) .z)) .z) .z))))) rfl Tryd.func156 rfl (by kernel_rfl) ?_
  ((conv=>whnf);repeat((first|refine Ta ?_|refine Tz mix ?_|refine Tc ?_|refine Tb ?_|refine Td rfl ?_|refine Tl ?_|refine sE rfl ?_|refine dG (by kernel_rfl) ?_|fail);(conv=>whnf)))
  refine bnd h (fun x24 h24 h => ?_)
  refine cut_at (fun s1 : (List Int) × Int => mkF 63 [(0, (.mso 0 p_data_o p_data_n)), (1, (.int .i64 p_n)), (2, (.fn (.func 119) [] [(.mp 1 0 0)])), (6, (.int .i64 (20 : Int))), (7, (.int .i64 s1.2))] [some ⟨1, 21, (.ints .i32 s1.1), false, true⟩, some ⟨3, 40, (.vals [(e_api_Norm p_cmp_0)]), false, false⟩]) (fun s1 : (List Int) × Int => m_slices_stableCmpFunc_rune_own_K2 p_data_o p_data_n p_n p_cmp_0 s1 = some r) ?_ ?_
  · intro Kn24 hn24
    ((conv=>whnf);repeat((first|refine Ta ?_|refine Tz mix ?_|refine Tc ?_|refine Tb ?_|refine Td rfl ?_|refine Tl ?_|refine sE rfl ?_|refine dG (by kernel_rfl) ?_|fail);(conv=>whnf)))
    refine loop_iter (fun s19 : (List Int) × Int × Int => mkF 63 [(0, (.mso 0 p_data_o p_data_n)), (1, (.int .i64 p_n)), (2, (.fn (.func 119) [] [(.mp 1 0 0)])), (6, (.int .i64 (20 : Int))), (7, (.int .i64 s19.2.1)), (8, (.int .i64 s19.2.2))] [some ⟨1, 21, (.ints .i32 s19.1), false, true⟩, some ⟨3, 40, (.vals [(e_api_Norm p_cmp_0)]), false, false⟩]) h24 (weak_gen [0, 1] rfl rfl (storeLe.cons rfl (objLe.mk id id (rowLe_ints (by first | rfl | simp))) (storeLe.cons rfl (objLe.mk id id (rowLe_vals (valsLe.cons (cellsLe_refl rfl) valsLe.nil))) storeLe.nil)) (slotsLe.cons (And.intro rfl (AV.Le.refl _)) (slotsLe.cons (And.intro rfl (AV.Le.refl _)) (slotsLe.cons (And.intro rfl (AV.Le.refl _)) (slotsLe.cons (And.intro rfl (AV.Le.refl _)) (slotsLe.cons (And.intro rfl (AV.Le.refl _)) (slotsLe.cons (And.intro rfl (AV.Le.refl _)) slotsLe.nil))))))) ?_
    intro k21 s19 st21 Kn21 hn21 h21_ hs21
    ((conv=>whnf);repeat((first|refine Ta ?_|refine Tz mix ?_|refine Tc ?_|refine Tb ?_|refine Td rfl ?_|refine Tl ?_|refine sE rfl ?_|refine dG (by kernel_rfl) ?_|fail);(conv=>whnf)))
    refine br_b rfl h21_ (fun c25 h21_ => ?_) (fun c25 h21_ => ?_)
    · ((conv=>whnf);repeat((first|refine Ta ?_|refine Tz mix ?_|refine Tc ?_|refine Tb ?_|refine Td rfl ?_|refine Tl ?_|refine sE rfl ?_|refine dG (by kernel_rfl) ?_|fail);(conv=>whnf)))
      refine bnd h21_ (fun y22 hy22 h21_ => ?_)
      refine own_intro (own_call [0, 1] (c_slices_insertionSortCmpFunc_rune_own _ _ _ _ _ _ _ hy22) rfl (storeLe.cons rfl (objLe.mk id id (rowLe_ints (by first | rfl | simp))) (storeLe.cons rfl (objLe.mk id id (rowLe_vals (valsLe.cons (cellsLe_refl rfl) valsLe.nil))) storeLe.nil)) (cellsLe.cons (And.intro rfl (AV.Le.refl _)) (cellsLe.cons (And.intro rfl (AV.Le.refl _)) (cellsLe.cons (And.intro rfl (AV.Le.refl _)) (cellsLe.cons (And.intro rfl (AV.Le.refl _)) cellsLe.nil)))) rfl) ?_
      ((conv=>whnf);repeat((first|refine Ta ?_|refine Tz mix ?_|refine Tc ?_|refine Tb ?_|refine Td rfl ?_|refine Tl ?_|refine sE rfl ?_|refine dG (by kernel_rfl) ?_|fail);(conv=>whnf)))
      obtain ⟨p26, h21_⟩ := grdO h21_
      have e := Option.some.inj h21_; subst e
      ((conv=>whnf);repeat((first|refine Ta ?_|refine Tz mix ?_|refine Tc ?_|refine Tb ?_|refine Td rfl ?_|refine Tl ?_|refine sE rfl ?_|refine dG (by kernel_rfl) ?_|fail);(conv=>whnf)))
      exact hn21 _ (y22, s19.2.2, (IntKind.wrap .i64 (s19.2.2 + (20 : Int)))) hs21 (weak_gen [0, 1] rfl rfl (storeLe.cons rfl (objLe.mk id id (rowLe_ints (by first | rfl | simp))) (storeLe.cons rfl (objLe.mk id id (rowLe_vals (valsLe.cons (cellsLe_refl rfl) valsLe.nil))) storeLe.nil)) (slotsLe.cons (And.intro rfl (AV.Le.refl _)) (slotsLe.cons (And.intro rfl (AV.Le.refl _)) (slotsLe.cons (And.intro rfl (AV.Le.refl _)) (slotsLe.cons (And.intro rfl (AV.Le.refl _)) (slotsLe.cons (And.intro rfl (AV.Le.refl _)) (slotsLe.cons (And.intro rfl (AV.Le.refl _)) slotsLe.nil)))))))
    · have e := Option.some.inj h21_; subst e
      have e := done_out hs21; subst e
      ((conv=>whnf);repeat((first|refine Ta ?_|refine Tz mix ?_|refine Tc ?_|refine Tb ?_|refine Td rfl ?_|refine Tl ?_|refine sE rfl ?_|refine dG (by kernel_rfl) ?_|fail);(conv=>whnf)))
      exact hn24 _ (s19.1, s19.2.1) h (weak_gen [0, 1] rfl rfl (storeLe.cons rfl (objLe.mk id id (rowLe_ints (by first | rfl | simp))) (storeLe.cons rfl (objLe.mk id id (rowLe_vals (valsLe.cons (cellsLe_refl rfl) valsLe.nil))) storeLe.nil)) (slotsLe.cons (And.intro rfl (AV.Le.refl _)) (slotsLe.cons (And.intro rfl (AV.Le.refl _)) (slotsLe.cons (And.intro rfl (AV.Le.refl _)) (slotsLe.cons (And.intro rfl (AV.Le.refl _)) (slotsLe.cons (And.intro rfl (AV.Le.refl _)) slotsLe.nil))))))
  · clear h h24
    intro s1 hc27
    ((conv=>whnf);repeat((first|refine Ta ?_|refine Tz mix ?_|refine Tc ?_|refine Tb ?_|refine Td rfl ?_|refine Tl ?_|refine sE rfl ?_|refine dG (by kernel_rfl) ?_|fail);(conv=>whnf)))
    refine bnd hc27 (fun y3 hy3 hc27 => ?_)
    refine own_intro (own_call [0, 1] (c_slices_insertionSortCmpFunc_rune_own _ _ _ _ _ _ _ hy3) rfl (storeLe.cons rfl (objLe.mk id id (rowLe_ints (by first | rfl | simp))) (storeLe.cons rfl (objLe.mk id id (rowLe_vals (valsLe.cons (cellsLe_refl rfl) valsLe.nil))) storeLe.nil)) (cellsLe.cons (And.intro rfl (AV.Le.refl _)) (cellsLe.cons (And.intro rfl (AV.Le.refl _)) (cellsLe.cons (And.intro rfl (AV.Le.refl _)) (cellsLe.cons (And.intro rfl (AV.Le.refl _)) cellsLe.nil)))) rfl) ?_
    ((conv=>whnf);repeat((first|refine Ta ?_|refine Tz mix ?_|refine Tc ?_|refine Tb ?_|refine Td rfl ?_|refine Tl ?_|refine sE rfl ?_|refine dG (by kernel_rfl) ?_|fail);(conv=>whnf)))
    obtain ⟨p28, hc27⟩ := grdO hc27
    ((conv=>whnf);repeat((first|refine Ta ?_|refine Tz mix ?_|refine Tc ?_|refine Tb ?_|refine Td rfl ?_|refine Tl ?_|refine sE rfl ?_|refine dG (by kernel_rfl) ?_|fail);(conv=>whnf)))
    refine bnd hc27 (fun x7 hx7 hc27 => ?_)
    refine loop_iter (fun s5 : (List Int) × Int => mkF 63 [(0, (.mso 0 p_data_o p_data_n)), (1, (.int .i64 p_n)), (2, (.fn (.func 119) [] [(.mp 1 0 0)])), (6, (.int .i64 s5.2))] [some ⟨1, 21, (.ints .i32 s5.1), false, true⟩, some ⟨3, 40, (.vals [(e_api_Norm p_cmp_0)]), false, false⟩]) hx7 (weak_gen [0, 1] rfl rfl (storeLe.cons rfl (objLe.mk id id (rowLe_ints (by first | rfl | simp))) (storeLe.cons rfl (objLe.mk id id (rowLe_vals (valsLe.cons (cellsLe_refl rfl) valsLe.nil))) storeLe.nil)) (slotsLe.cons (And.intro rfl (AV.Le.refl _)) (slotsLe.cons (And.intro rfl (AV.Le.refl _)) (slotsLe.cons (And.intro rfl (AV.Le.refl _)) (slotsLe.cons (And.intro rfl (AV.Le.refl _)) slotsLe.nil))))) ?_
    intro k7 s5 st7 Kn7 hn7 h7 hs7
    ((conv=>whnf);repeat((first|refine Ta ?_|refine Tz mix ?_|refine Tc ?_|refine Tb ?_|refine Td rfl ?_|refine Tl ?_|refine sE rfl ?_|refine dG (by kernel_rfl) ?_|fail);(conv=>whnf)))
    refine br_b rfl h7 (fun c29 h7 => ?_) (fun c29 h7 => ?_)
    · ((conv=>whnf);repeat((first|refine Ta ?_|refine Tz mix ?_|refine Tc ?_|refine Tb ?_|refine Td rfl ?_|refine Tl ?_|refine sE rfl ?_|refine dG (by kernel_rfl) ?_|fail);(conv=>whnf)))
      refine bnd h7 (fun x30 h30 h7 => ?_)
      refine cut_at (fun s8 : (List Int) × Int => mkF 63 [(0, (.mso 0 p_data_o p_data_n)), (1, (.int .i64 p_n)), (2, (.fn (.func 119) [] [(.mp 1 0 0)])), (6, (.int .i64 s5.2)), (7, (.int .i64 s8.2))] [some ⟨1, 21, (.ints .i32 s8.1), false, true⟩, some ⟨3, 40, (.vals [(e_api_Norm p_cmp_0)]), false, false⟩]) (fun s8 : (List Int) × Int => m_slices_stableCmpFunc_rune_own_K9 p_data_o p_data_n p_n p_cmp_0 s5 s8 = some st7) ?_ ?_
      · intro Kn30 hn30
        ((conv=>whnf);repeat((first|refine Ta ?_|refine Tz mix ?_|refine Tc ?_|refine Tb ?_|refine Td rfl ?_|refine Tl ?_|refine sE rfl ?_|refine dG (by kernel_rfl) ?_|fail);(conv=>whnf)))
        refine loop_iter (fun s12 : (List Int) × Int × Int => mkF 63 [(0, (.mso 0 p_data_o p_data_n)), (1, (.int .i64 p_n)), (2, (.fn (.func 119) [] [(.mp 1 0 0)])), (6, (.int .i64 s5.2)), (7, (.int .i64 s12.2.1)), (8, (.int .i64 s12.2.2))] [some ⟨1, 21, (.ints .i32 s12.1), false, true⟩, some ⟨3, 40, (.vals [(e_api_Norm p_cmp_0)]), false, false⟩]) h30 (weak_gen [0, 1] rfl rfl (storeLe.cons rfl (objLe.mk id id (rowLe_ints (by first | rfl | simp))) (storeLe.cons rfl (objLe.mk id id (rowLe_vals (valsLe.cons (cellsLe_refl rfl) valsLe.nil))) storeLe.nil)) (slotsLe.cons (And.intro rfl (AV.Le.refl _)) (slotsLe.cons (And.intro rfl (AV.Le.refl _)) (slotsLe.cons (And.intro rfl (AV.Le.refl _)) (slotsLe.cons (And.intro rfl (AV.Le.refl _)) (slotsLe.cons (And.intro rfl (AV.Le.refl _)) (slotsLe.cons (And.intro rfl (AV.Le.refl _)) slotsLe.nil))))))) ?_
        intro k14 s12 st14 Kn14 hn14 h14_ hs14
        ((conv=>whnf);repeat((first|refine Ta ?_|refine Tz mix ?_|refine Tc ?_|refine Tb ?_|refine Td rfl ?_|refine Tl ?_|refine sE rfl ?_|refine dG (by kernel_rfl) ?_|fail);(conv=>whnf)))
        refine br_b rfl h14_ (fun c31 h14_ => ?_) (fun c31 h14_ => ?_)
        · ((conv=>whnf);repeat((first|refine Ta ?_|refine Tz mix ?_|refine Tc ?_|refine Tb ?_|refine Td rfl ?_|refine Tl ?_|refine sE rfl ?_|refine dG (by kernel_rfl) ?_|fail);(conv=>whnf)))
          refine bnd h14_ (fun y15 hy15 h14_ => ?_)
          refine own_intro (own_call [0, 1] (c_slices_symMergeCmpFunc_rune_own _ _ _ _ _ _ _ _ hy15) rfl (storeLe.cons rfl (objLe.mk id id (rowLe_ints (by first | rfl | simp))) (storeLe.cons rfl (objLe.mk id id (rowLe_vals (valsLe.cons (cellsLe_refl rfl) valsLe.nil))) storeLe.nil)) (cellsLe.cons (And.intro rfl (AV.Le.refl _)) (cellsLe.cons (And.intro rfl (AV.Le.refl _)) (cellsLe.cons (And.intro rfl (AV.Le.refl _)) (cellsLe.cons (And.intro rfl (AV.Le.refl _)) (cellsLe.cons (And.intro rfl (AV.Le.refl _)) cellsLe.nil))))) rfl) ?_
          ((conv=>whnf);repeat((first|refine Ta ?_|refine Tz mix ?_|refine Tc ?_|refine Tb ?_|refine Td rfl ?_|refine Tl ?_|refine sE rfl ?_|refine dG (by kernel_rfl) ?_|fail);(conv=>whnf)))
          obtain ⟨p32, h14_⟩ := grdO h14_
          have e := Option.some.inj h14_; subst e
          ((conv=>whnf);repeat((first|refine Ta ?_|refine Tz mix ?_|refine Tc ?_|refine Tb ?_|refine Td rfl ?_|refine Tl ?_|refine sE rfl ?_|refine dG (by kernel_rfl) ?_|fail);(conv=>whnf)))
          exact hn14 _ (y15, s12.2.2, (IntKind.wrap .i64 (s12.2.2 + (IntKind.wrap .i64 ((2 : Int) * s5.2))))) hs14 (weak_gen [0, 1] rfl rfl (storeLe.cons rfl (objLe.mk id id (rowLe_ints (by first | rfl | simp))) (storeLe.cons rfl (objLe.mk id id (rowLe_vals (valsLe.cons (cellsLe_refl rfl) valsLe.nil))) storeLe.nil)) (slotsLe.cons (And.intro rfl (AV.Le.refl _)) (slotsLe.cons (And.intro rfl (AV.Le.refl _)) (slotsLe.cons (And.intro rfl (AV.Le.refl _)) (slotsLe.cons (And.intro rfl (AV.Le.refl _)) (slotsLe.cons (And.intro rfl (AV.Le.refl _)) (slotsLe.cons (And.intro rfl (AV.Le.refl _)) slotsLe.nil)))))))
        · have e := Option.some.inj h14_; subst e
          have e := done_out hs14; subst e
          ((conv=>whnf);repeat((first|refine Ta ?_|refine Tz mix ?_|refine Tc ?_|refine Tb ?_|refine Td rfl ?_|refine Tl ?_|refine sE rfl ?_|refine dG (by kernel_rfl) ?_|fail);(conv=>whnf)))
          exact hn30 _ (s12.1, s12.2.1) h7 (weak_gen [0, 1] rfl rfl (storeLe.cons rfl (objLe.mk id id (rowLe_ints (by first | rfl | simp))) (storeLe.cons rfl (objLe.mk id id (rowLe_vals (valsLe.cons (cellsLe_refl rfl) valsLe.nil))) storeLe.nil)) (slotsLe.cons (And.intro rfl (AV.Le.refl _)) (slotsLe.cons (And.intro rfl (AV.Le.refl _)) (slotsLe.cons (And.intro rfl (AV.Le.refl _)) (slotsLe.cons (And.intro rfl (AV.Le.refl _)) (slotsLe.cons (And.intro rfl (AV.Le.refl _)) slotsLe.nil))))))
      · clear h7 h30
        intro s8 hc33
        ((conv=>whnf);repeat((first|refine Ta ?_|refine Tz mix ?_|refine Tc ?_|refine Tb ?_|refine Td rfl ?_|refine Tl ?_|refine sE rfl ?_|refine dG (by kernel_rfl) ?_|fail);(conv=>whnf)))
        refine br_b rfl hc33 (fun c34 hc33 => ?_) (fun c34 hc33 => ?_)
        · ((conv=>whnf);repeat((first|refine Ta ?_|refine Tz mix ?_|refine Tc ?_|refine Tb ?_|refine Td rfl ?_|refine Tl ?_|refine sE rfl ?_|refine dG (by kernel_rfl) ?_|fail);(conv=>whnf)))
          refine bnd hc33 (fun y10 hy10 hc33 => ?_)
          refine own_intro (own_call [0, 1] (c_slices_symMergeCmpFunc_rune_own _ _ _ _ _ _ _ _ hy10) rfl (storeLe.cons rfl (objLe.mk id id (rowLe_ints (by first | rfl | simp))) (storeLe.cons rfl (objLe.mk id id (rowLe_vals (valsLe.cons (cellsLe_refl rfl) valsLe.nil))) storeLe.nil)) (cellsLe.cons (And.intro rfl (AV.Le.refl _)) (cellsLe.cons (And.intro rfl (AV.Le.refl _)) (cellsLe.cons (And.intro rfl (AV.Le.refl _)) (cellsLe.cons (And.intro rfl (AV.Le.refl _)) (cellsLe.cons (And.intro rfl (AV.Le.refl _)) cellsLe.nil))))) rfl) ?_
          ((conv=>whnf);repeat((first|refine Ta ?_|refine Tz mix ?_|refine Tc ?_|refine Tb ?_|refine Td rfl ?_|refine Tl ?_|refine sE rfl ?_|refine dG (by kernel_rfl) ?_|fail);(conv=>whnf)))
          obtain ⟨p35, hc33⟩ := grdO hc33
          have e := Option.some.inj hc33; subst e
          ((conv=>whnf);repeat((first|refine Ta ?_|refine Tz mix ?_|refine Tc ?_|refine Tb ?_|refine Td rfl ?_|refine Tl ?_|refine sE rfl ?_|refine dG (by kernel_rfl) ?_|fail);(conv=>whnf)))
          exact hn7 _ (y10, (IntKind.wrap .i64 (s5.2 * (2 : Int)))) hs7 (weak_gen [0, 1] rfl rfl (storeLe.cons rfl (objLe.mk id id (rowLe_ints (by first | rfl | simp))) (storeLe.cons rfl (objLe.mk id id (rowLe_vals (valsLe.cons (cellsLe_refl rfl) valsLe.nil))) storeLe.nil)) (slotsLe.cons (And.intro rfl (AV.Le.refl _)) (slotsLe.cons (And.intro rfl (AV.Le.refl _)) (slotsLe.cons (And.intro rfl (AV.Le.refl _)) (slotsLe.cons (And.intro rfl (AV.Le.refl _)) slotsLe.nil)))))
        · have e := Option.some.inj hc33; subst e
          ((conv=>whnf);repeat((first|refine Ta ?_|refine Tz mix ?_|refine Tc ?_|refine Tb ?_|refine Td rfl ?_|refine Tl ?_|refine sE rfl ?_|refine dG (by kernel_rfl) ?_|fail);(conv=>whnf)))
          exact hn7 _ (s8.1, (IntKind.wrap .i64 (s5.2 * (2 : Int)))) hs7 (weak_gen [0, 1] rfl rfl (storeLe.cons rfl (objLe.mk id id (rowLe_ints (by first | rfl | simp))) (storeLe.cons rfl (objLe.mk id id (rowLe_vals (valsLe.cons (cellsLe_refl rfl) valsLe.nil))) storeLe.nil)) (slotsLe.cons (And.intro rfl (AV.Le.refl _)) (slotsLe.cons (And.intro rfl (AV.Le.refl _)) (slotsLe.cons (And.intro rfl (AV.Le.refl _)) (slotsLe.cons (And.intro rfl (AV.Le.refl _)) slotsLe.nil)))))
    · have e := Option.some.inj h7; subst e
      have e := done_out hs7; subst e
      have e := Option.some.inj hc27; subst e
      ((conv=>whnf);repeat((first|refine Ta ?_|refine Tz mix ?_|refine Tc ?_|refine Tb ?_|refine Td rfl ?_|refine Tl ?_|refine sE rfl ?_|refine dG (by kernel_rfl) ?_|fail);(conv=>whnf)))
      exact Or.inr (Or.inr (weak_gen [0, 1] rfl rfl (storeLe.cons rfl (objLe.mk id id (rowLe_ints (by first | rfl | simp))) (storeLe.cons rfl (objLe.mk id id (rowLe_vals (valsLe.cons (cellsLe_refl rfl) valsLe.nil))) storeLe.nil)) (slotsLe.cons (And.intro rfl (AV.Le.refl _)) slotsLe.nil)))
theorem c_slices_SortStableFunc_rune_rune_own (p_x : (List Int)) (p_x_o : Nat) (p_x_n : Nat) (p_cmp_0 : T_api_Norm) (r : (List Int)) (h : m_slices_SortStableFunc_rune_rune_own p_x p_x_o p_x_n p_cmp_0 = some r) : ContractM 2 pl 118 [(.mso 0 p_x_o p_x_n), (.fn (.func 119) [] [(.mp 1 0 0)])] [some ⟨1, 21, (.ints .i32 p_x), false, true⟩, some ⟨3, 40, (.vals [(e_api_Norm p_cmp_0)]), false, false⟩] (.tup []) [some ⟨1, 21, (.ints .i32 r), false, true⟩, some ⟨3, 40, (.vals [(e_api_Norm p_cmp_0)]), false, false⟩] := by
  refine contract_own 2 .z rfl Tryd.func118 rfl (by kernel_rfl) ?_
  ((conv=>whnf);repeat((first|refine Ta ?_|refine Tz mix ?_|refine Tc ?_|refine Tb ?_|refine Td rfl ?_|refine Tl ?_|refine sE rfl ?_|refine dG (by kernel_rfl) ?_|fail);(conv=>whnf)))
  refine bnd h (fun y1 hy1 h => ?_)
  refine own_intro (own_call [0, 1] (c_slices_stableCmpFunc_rune_own _ _ _ _ _ _ hy1) rfl (storeLe.cons rfl (objLe.mk id id (rowLe_ints (by first | rfl | simp))) (storeLe.cons rfl (objLe.mk id id (rowLe_vals (valsLe.cons (cellsLe_refl rfl) valsLe.nil))) storeLe.nil)) (cellsLe.cons (And.intro rfl (AV.Le.refl _)) (cellsLe.cons (And.intro rfl (AV.Le.refl _)) (cellsLe.cons (And.intro rfl (AV.Le.refl _)) cellsLe.nil))) rfl) ?_
  ((conv=>whnf);repeat((first|refine Ta ?_|refine Tz mix ?_|refine Tc ?_|refine Tb ?_|refine Td rfl ?_|refine Tl ?_|refine sE rfl ?_|refine dG (by kernel_rfl) ?_|fail);(conv=>whnf)))
  obtain ⟨p2, h⟩ := grdO h
  have e := Option.some.inj h; subst e
  ((conv=>whnf);repeat((first|refine Ta ?_|refine Tz mix ?_|refine Tc ?_|refine Tb ?_|refine Td rfl ?_|refine Tl ?_|refine sE rfl ?_|refine dG (by kernel_rfl) ?_|fail);(conv=>whnf)))
  exact Or.inr (Or.inr (weak_gen [0, 1] rfl rfl (storeLe.cons rfl (objLe.mk id id (rowLe_ints (by first | rfl | simp))) (storeLe.cons rfl (objLe.mk id id (rowLe_vals (valsLe.cons (cellsLe_refl rfl) valsLe.nil))) storeLe.nil)) (slotsLe.cons (And.intro rfl (AV.Le.refl _)) slotsLe.nil)))
theorem c_decomp_Order (p_t : T_api_Norm) (p_l : (List Int)) (r : (List Int)) (h : m_decomp_Order p_t p_l = some r) : Contract pl 63 [(e_api_Norm p_t), (e_L_i32 p_l)] [] (e_L_i32 r) [] := by
  refine contract_of (.t false .z (.t false .z (.t true (.t false .z (.t false (.t false (.t false .z (.t false (.t false .z (.t true (.t false (.t false (.t false (.t true .z .z) .z) .z) .z) .z)) .z)) .z) .z)) .z))) Tryd.func63 rfl (by kernel_rfl) ?_
  ((conv=>whnf);repeat((first|refine Ta ?_|refine Tz mix ?_|refine Tc ?_|refine Tb ?_|refine Td rfl ?_|refine Tl ?_|refine sE rfl ?_|refine dG (by kernel_rfl) ?_|fail);(conv=>whnf)))
  refine bnd h (fun y1 hy1 h => ?_)
  refine Or.inr (own_intro (own_call [] (c_slices_Clone_rune_rune_own _ _ hy1) rfl storeLe.nil (cellsLe.cons (And.intro rfl (AV.Le.refl _)) cellsLe.nil) rfl) ?_)
  ((conv=>whnf);repeat((first|refine Ta ?_|refine Tz mix ?_|refine Tc ?_|refine Tb ?_|refine Td rfl ?_|refine Tl ?_|refine sE rfl ?_|refine dG (by kernel_rfl) ?_|fail);(conv=>whnf)))
  refine bnd h (fun x20 h20 h => ?_)
  refine cut_at (fun s2 : (List Int) => mkF 39 [(5, (.ms 0 s2.length))] [some ⟨1, 21, (.ints .i32 s2), false, true⟩]) (fun s2 : (List Int) => some s2 = some r) ?_ ?_
  · intro Kn20 hn20
    ((conv=>whnf);repeat((first|refine Ta ?_|refine Tz mix ?_|refine Tc ?_|refine Tb ?_|refine Td rfl ?_|refine Tl ?_|refine sE rfl ?_|refine dG (by kernel_rfl) ?_|fail);(conv=>whnf)))
    refine loop_iter (fun s5 : (List Int) × Int => mkF 39 [(2, (.mp 0 0 0)), (5, (.ms 1 s5.1.length)), (6, (.int .i64 s5.2))] [some ⟨3, 40, (.vals [(e_api_Norm p_t)]), false, false⟩, some ⟨1, 21, (.ints .i32 s5.1), false, true⟩]) h20 (weak_gen [0, 1] rfl rfl (storeLe.cons rfl (objLe.mk id id (rowLe_vals (valsLe.cons (cellsLe_refl rfl) valsLe.nil))) (storeLe.cons rfl (objLe.mk id id (rowLe_ints (by first | rfl | simp))) storeLe.nil)) (slotsLe.cons (And.intro rfl (AV.Le.refl _)) (slotsLe.cons (And.intro rfl (AV.Le.of_eq (congrArg (AV.ms _) (by first | rfl | omega | (simp; omega) | simp)))) (slotsLe.cons (And.intro rfl (AV.Le.refl _)) slotsLe.nil)))) ?_
    intro k7 s5 st7 Kn7 hn7 h7_ hs7
    ((conv=>whnf);repeat((first|refine Ta ?_|refine Tz mix ?_|refine Tc ?_|refine Tb ?_|refine Td rfl ?_|refine Tl ?_|refine sE rfl ?_|refine dG (by kernel_rfl) ?_|fail);(conv=>whnf)))
    refine br_b rfl h7_ (fun c21 h7_ => ?_) (fun c21 h7_ => ?_)
    · ((conv=>whnf);repeat((first|refine Ta ?_|refine Tz mix ?_|refine Tc ?_|refine Tb ?_|refine Td rfl ?_|refine Tl ?_|refine sE rfl ?_|refine dG (by kernel_rfl) ?_|fail);(conv=>whnf)))
      refine bnd h7_ (fun x22 h22 h7_ => ?_)
      refine cut_at (fun s8 : Int => mkF 39 [(2, (.mp 0 0 0)), (5, (.ms 1 s5.1.length)), (6, (.int .i64 s5.2)), (7, (.int .i64 s8))] [some ⟨3, 40, (.vals [(e_api_Norm p_t)]), false, false⟩, some ⟨1, 21, (.ints .i32 s5.1), false, true⟩]) (fun s8 : Int => m_decomp_Order_K9 p_t s5 s8 = some st7) ?_ ?_
      · intro Kn22 hn22
        ((conv=>whnf);repeat((first|refine Ta ?_|refine Tz mix ?_|refine Tc ?_|refine Tb ?_|refine Td rfl ?_|refine Tl ?_|refine sE rfl ?_|refine dG (by kernel_rfl) ?_|fail);(conv=>whnf)))
        refine loop_iter (fun s12 : Int => mkF 39 [(2, (.mp 0 0 0)), (5, (.ms 1 s5.1.length)), (6, (.int .i64 s5.2)), (7, (.int .i64 s12))] [some ⟨3, 40, (.vals [(e_api_Norm p_t)]), false, false⟩, some ⟨1, 21, (.ints .i32 s5.1), false, true⟩]) h22 (weak_gen [0, 1] rfl rfl (storeLe.cons rfl (objLe.mk id id (rowLe_vals (valsLe.cons (cellsLe_refl rfl) valsLe.nil))) (storeLe.cons rfl (objLe.mk id id (by first | exact rowLe_same fun _ _ _ => rfl | (simp; exact rowLe_same fun _ _ _ => rfl))) storeLe.nil)) (slotsLe.cons (And.intro rfl (AV.Le.refl _)) (slotsLe.cons (And.intro rfl (AV.Le.of_eq (congrArg (AV.ms _) (by first | rfl | omega | (simp; omega) | simp)))) (slotsLe.cons (And.intro rfl (AV.Le.refl _)) (slotsLe.cons (And.intro rfl (AV.Le.refl _)) slotsLe.nil))))) ?_
        intro k14 s12 st14 Kn14 hn14 h14_ hs14
        ((conv=>whnf);repeat((first|refine Ta ?_|refine Tz mix ?_|refine Tc ?_|refine Tb ?_|refine Td rfl ?_|refine Tl ?_|refine sE rfl ?_|refine dG (by kernel_rfl) ?_|fail);(conv=>whnf)))
        refine bnd h14_ (fun x23 h23 h14_ => ?_)
        refine cut_at (fun s15 : Bool => mkF 39 [(2, (.mp 0 0 0)), (5, (.ms 1 s5.1.length)), (6, (.int .i64 s5.2)), (7, (.int .i64 s12)), (27, (.bool s15))] [some ⟨3, 40, (.vals [(e_api_Norm p_t)]), false, false⟩, some ⟨1, 21, (.ints .i32 s5.1), false, true⟩]) (fun s15 : Bool => m_decomp_Order_K16 s12 s15 = some st14) ?_ ?_
        · intro Kn23 hn23
          ((conv=>whnf);repeat((first|refine Ta ?_|refine Tz mix ?_|refine Tc ?_|refine Tb ?_|refine Td rfl ?_|refine Tl ?_|refine sE rfl ?_|refine dG (by kernel_rfl) ?_|fail);(conv=>whnf)))
          refine br_b rfl h23 (fun c24 h23 => ?_) (fun c24 h23 => ?_)
          · ((conv=>whnf);repeat((first|refine Ta ?_|refine Tz mix ?_|refine Tc ?_|refine Tb ?_|refine Td rfl ?_|refine Tl ?_|refine sE rfl ?_|refine dG (by kernel_rfl) ?_|fail);(conv=>whnf)))
            refine grd2 rfl rfl h23 (fun h23 => ?_)
            ((conv=>whnf);repeat((first|refine Ta ?_|refine Tz mix ?_|refine Tc ?_|refine Tb ?_|refine Td rfl ?_|refine Tl ?_|refine sE rfl ?_|refine dG (by kernel_rfl) ?_|fail);(conv=>whnf)))
            refine bnd h23 (fun y17 hy17 h23 => ?_)
            refine Or.inl ⟨_, c_decomp_Class _ _ _ hy17, rfl, ?_⟩
            have e := Option.some.inj h23; subst e
            ((conv=>whnf);repeat((first|refine Ta ?_|refine Tz mix ?_|refine Tc ?_|refine Tb ?_|refine Td rfl ?_|refine Tl ?_|refine sE rfl ?_|refine dG (by kernel_rfl) ?_|fail);(conv=>whnf)))
            exact hn23 _ (decide (y17 > (0 : Int))) h14_ (weak_gen [0, 1] rfl rfl (storeLe.cons rfl (objLe.mk id id (rowLe_vals (valsLe.cons (cellsLe_refl rfl) valsLe.nil))) (storeLe.cons rfl (objLe.mk id id (by first | exact rowLe_same fun _ _ _ => rfl | (simp; exact rowLe_same fun _ _ _ => rfl))) storeLe.nil)) (slotsLe.cons (And.intro rfl (AV.Le.refl _)) (slotsLe.cons (And.intro rfl (AV.Le.of_eq (congrArg (AV.ms _) (by first | rfl | omega | (simp; omega) | simp)))) (slotsLe.cons (And.intro rfl (AV.Le.refl _)) (slotsLe.cons (And.intro rfl (AV.Le.refl _)) (slotsLe.cons (And.intro rfl (AV.Le.refl _)) slotsLe.nil))))))
          · have e := Option.some.inj h23; subst e
            ((conv=>whnf);repeat((first|refine Ta ?_|refine Tz mix ?_|refine Tc ?_|refine Tb ?_|refine Td rfl ?_|refine Tl ?_|refine sE rfl ?_|refine dG (by kernel_rfl) ?_|fail);(conv=>whnf)))
            exact hn23 _ false h14_ (weak_gen [0, 1] rfl rfl (storeLe.cons rfl (objLe.mk id id (rowLe_vals (valsLe.cons (cellsLe_refl rfl) valsLe.nil))) (storeLe.cons rfl (objLe.mk id id (by first | exact rowLe_same fun _ _ _ => rfl | (simp; exact rowLe_same fun _ _ _ => rfl))) storeLe.nil)) (slotsLe.cons (And.intro rfl (AV.Le.refl _)) (slotsLe.cons (And.intro rfl (AV.Le.of_eq (congrArg (AV.ms _) (by first | rfl | omega | (simp; omega) | simp)))) (slotsLe.cons (And.intro rfl (AV.Le.refl _)) (slotsLe.cons (And.intro rfl (AV.Le.refl _)) (slotsLe.cons (And.intro rfl (AV.Le.refl _)) slotsLe.nil))))))
        · clear h14_ h23
          intro s15 hc25
          ((conv=>whnf);repeat((first|refine Ta ?_|refine Tz mix ?_|refine Tc ?_|refine Tb ?_|refine Td rfl ?_|refine Tl ?_|refine sE rfl ?_|refine dG (by kernel_rfl) ?_|fail);(conv=>whnf)))
          refine br_b rfl hc25 (fun c26 hc25 => ?_) (fun c26 hc25 => ?_)
          · have e := Option.some.inj hc25; subst e
            ((conv=>whnf);repeat((first|refine Ta ?_|refine Tz mix ?_|refine Tc ?_|refine Tb ?_|refine Td rfl ?_|refine Tl ?_|refine sE rfl ?_|refine dG (by kernel_rfl) ?_|fail);(conv=>whnf)))
            exact hn14 _ (IntKind.wrap .i64 (s12 + (1 : Int))) hs14 (weak_gen [0, 1] rfl rfl (storeLe.cons rfl (objLe.mk id id (rowLe_vals (valsLe.cons (cellsLe_refl rfl) valsLe.nil))) (storeLe.cons rfl (objLe.mk id id (by first | exact rowLe_same fun _ _ _ => rfl | (simp; exact rowLe_same fun _ _ _ => rfl))) storeLe.nil)) (slotsLe.cons (And.intro rfl (AV.Le.refl _)) (slotsLe.cons (And.intro rfl (AV.Le.of_eq (congrArg (AV.ms _) (by first | rfl | omega | (simp; omega) | simp)))) (slotsLe.cons (And.intro rfl (AV.Le.refl _)) (slotsLe.cons (And.intro rfl (AV.Le.refl _)) slotsLe.nil)))))
          · have e := Option.some.inj hc25; subst e
            have e := done_out hs14; subst e
            ((conv=>whnf);repeat((first|refine Ta ?_|refine Tz mix ?_|refine Tc ?_|refine Tb ?_|refine Td rfl ?_|refine Tl ?_|refine sE rfl ?_|refine dG (by kernel_rfl) ?_|fail);(conv=>whnf)))
            exact hn22 _ s12 h7_ (weak_gen [0, 1] rfl rfl (storeLe.cons rfl (objLe.mk id id (rowLe_vals (valsLe.cons (cellsLe_refl rfl) valsLe.nil))) (storeLe.cons rfl (objLe.mk id id (by first | exact rowLe_same fun _ _ _ => rfl | (simp; exact rowLe_same fun _ _ _ => rfl))) storeLe.nil)) (slotsLe.cons (And.intro rfl (AV.Le.refl _)) (slotsLe.cons (And.intro rfl (AV.Le.of_eq (congrArg (AV.ms _) (by first | rfl | omega | (simp; omega) | simp)))) (slotsLe.cons (And.intro rfl (AV.Le.refl _)) (slotsLe.cons (And.intro rfl (AV.Le.refl _)) slotsLe.nil)))))
      · clear h7_ h22
        intro s8 hc27
        ((conv=>whnf);repeat((first|refine Ta ?_|refine Tz mix ?_|refine Tc ?_|refine Tb ?_|refine Td rfl ?_|refine Tl ?_|refine sE rfl ?_|refine dG (by kernel_rfl) ?_|fail);(conv=>whnf)))
        have ghc27 := gOf hc27
        refine grd3 rfl rfl rfl hc27 (fun hc27 => ?_)
        ((conv=>whnf);repeat((first|refine Ta ?_|refine Tz mix ?_|refine Tc ?_|refine Tb ?_|refine Td rfl ?_|refine Tl ?_|refine sE rfl ?_|refine dG (by kernel_rfl) ?_|fail);(conv=>whnf)))
        refine bnd hc27 (fun y10 hy10 hc27 => ?_)
        refine own_intro (own_call [1, 0] (c_slices_SortStableFunc_rune_rune_own _ _ _ _ _ hy10) rfl (storeLe.cons rfl (objLe.mk id id (rowLe_ints (by first | rfl | simp))) (storeLe.cons rfl (objLe.mk id id (rowLe_vals (valsLe.cons (cellsLe_refl rfl) valsLe.nil))) storeLe.nil)) (cellsLe.cons (And.intro rfl (AV.Le.refl _)) (cellsLe.cons (And.intro rfl (AV.Le.refl _)) cellsLe.nil)) rfl) ?_
        ((conv=>whnf);repeat((first|refine Ta ?_|refine Tz mix ?_|refine Tc ?_|refine Tb ?_|refine Td rfl ?_|refine Tl ?_|refine sE rfl ?_|refine dG (by kernel_rfl) ?_|fail);(conv=>whnf)))
        obtain ⟨p28, hc27⟩ := grdO hc27
        have e := Option.some.inj hc27; subst e
        ((conv=>whnf);repeat((first|refine Ta ?_|refine Tz mix ?_|refine Tc ?_|refine Tb ?_|refine Td rfl ?_|refine Tl ?_|refine sE rfl ?_|refine dG (by kernel_rfl) ?_|fail);(conv=>whnf)))
        exact hn7 _ (y10, (IntKind.wrap .i64 (s8 + (1 : Int)))) hs7 (weak_gen [0, 1] rfl rfl (storeLe.cons rfl (objLe.mk id id (rowLe_vals (valsLe.cons (cellsLe_refl rfl) valsLe.nil))) (storeLe.cons rfl (objLe.mk id id (rowLe_ints (by first | rfl | simp))) storeLe.nil)) (slotsLe.cons (And.intro rfl (AV.Le.refl _)) (slotsLe.cons (And.intro rfl (AV.Le.of_eq (congrArg (AV.ms _) (by first | rfl | omega | (simp; omega) | simp)))) (slotsLe.cons (And.intro rfl (AV.Le.refl _)) slotsLe.nil))))
    · have e := Option.some.inj h7_; subst e
      have e := done_out hs7; subst e
      ((conv=>whnf);repeat((first|refine Ta ?_|refine Tz mix ?_|refine Tc ?_|refine Tb ?_|refine Td rfl ?_|refine Tl ?_|refine sE rfl ?_|refine dG (by kernel_rfl) ?_|fail);(conv=>whnf)))
      exact hn20 _ s5.1 h (weak_gen [1] rfl rfl (storeLe.cons rfl (objLe.mk id id (rowLe_ints (by first | rfl | simp))) storeLe.nil) (slotsLe.cons (And.intro rfl (AV.Le.of_eq (congrArg (AV.ms _) (by first | rfl | omega | (simp; omega) | simp)))) slotsLe.nil))
  · clear h h20
    intro s2 hc29
    have e := Option.some.inj hc29; subst e
    ((conv=>whnf);repeat((first|refine Ta ?_|refine Tz mix ?_|refine Tc ?_|refine Tb ?_|refine Td rfl ?_|refine Tl ?_|refine sE rfl ?_|refine dG (by kernel_rfl) ?_|fail);(conv=>whnf)))
    exact And.intro (AV.Le.refl _) rfl
theorem c_decomp_All (p_t : T_api_Norm) (p_l : (List Int)) (r : (List Int)) (h : m_decomp_All p_t p_l = some r) : Contract pl 62 [(e_api_Norm p_t), (e_L_i32 p_l)] [] (e_L_i32 r) [] := by
  refine contract_of (.t false .z (.t false .z (.t true .z .z))) Tryd.func62 rfl (by kernel_rfl) ?_
  ((conv=>whnf);repeat((first|refine Ta ?_|refine Tz mix ?_|refine Tc ?_|refine Tb ?_|refine Td rfl ?_|refine Tl ?_|refine sE rfl ?_|refine dG (by kernel_rfl) ?_|fail);(conv=>whnf)))
  refine bnd h (fun x10 h10 h => ?_)
  refine cut_at (fun s1 : (List Int) => mkF 23 [(2, (.mp 0 0 0)), (5, (.ms 1 s1.length))] [some ⟨3, 40, (.vals [(e_api_Norm p_t)]), false, false⟩, some ⟨1, 21, (.ints .i32 s1), false, true⟩]) (fun s1 : (List Int) => m_decomp_All_K2 p_t s1 = some r) ?_ ?_
  · intro Kn10 hn10
    ((conv=>whnf);repeat((first|refine Ta ?_|refine Tz mix ?_|refine Tc ?_|refine Tb ?_|refine Td rfl ?_|refine Tl ?_|refine sE rfl ?_|refine dG (by kernel_rfl) ?_|fail);(conv=>whnf)))
    refine loop_iter (fun s5 : (List Int) × Int => mkF 23 [(2, (.mp 0 0 0)), (5, (.ms 1 s5.1.length)), (8, (e_L_i32 p_l)), (9, (.int .i64 ((p_l.length : Nat) : Int))), (10, (.int .i64 s5.2))] [some ⟨3, 40, (.vals [(e_api_Norm p_t)]), false, false⟩, some ⟨1, 21, (.ints .i32 s5.1), false, true⟩]) h10 (weak_trans (weak_nil 5 1 21 (.ints .i32 []) _ rfl rfl trivial (Nat.zero_le _)) (weak_gen [0, 1] rfl rfl (storeLe.cons rfl (objLe.mk id id (rowLe_vals (valsLe.cons (cellsLe_refl rfl) valsLe.nil))) (storeLe.cons rfl (objLe.mk id id (rowLe_ints (by first | rfl | simp))) storeLe.nil)) (slotsLe.cons (And.intro rfl (AV.Le.refl _)) (slotsLe.cons (And.intro rfl (AV.Le.refl _)) (slotsLe.cons (And.intro rfl (AV.Le.refl _)) (slotsLe.cons (And.intro rfl (AV.Le.refl _)) (slotsLe.cons (And.intro rfl (AV.Le.refl _)) slotsLe.nil))))))) ?_
    intro k7 s5 st7 Kn7 hn7 h7_ hs7
    ((conv=>whnf);repeat((first|refine Ta ?_|refine Tz mix ?_|refine Tc ?_|refine Tb ?_|refine Td rfl ?_|refine Tl ?_|refine sE rfl ?_|refine dG (by kernel_rfl) ?_|fail);(conv=>whnf)))
    refine br_b rfl h7_ (fun c11 h7_ => ?_) (fun c11 h7_ => ?_)
    · ((conv=>whnf);repeat((first|refine Ta ?_|refine Tz mix ?_|refine Tc ?_|refine Tb ?_|refine Td rfl ?_|refine Tl ?_|refine sE rfl ?_|refine dG (by kernel_rfl) ?_|fail);(conv=>whnf)))
      refine grd2 rfl rfl h7_ (fun h7_ => ?_)
      ((conv=>whnf);repeat((first|refine Ta ?_|refine Tz mix ?_|refine Tc ?_|refine Tb ?_|refine Td rfl ?_|refine Tl ?_|refine sE rfl ?_|refine dG (by kernel_rfl) ?_|fail);(conv=>whnf)))
      refine bnd h7_ (fun y8 hy8 h7_ => ?_)
      refine Or.inl ⟨_, c_decomp_One _ _ _ hy8, rfl, ?_⟩
      ((conv=>whnf);repeat((first|refine Ta ?_|refine Tz mix ?_|refine Tc ?_|refine Tb ?_|refine Td rfl ?_|refine Tl ?_|refine sE rfl ?_|refine dG (by kernel_rfl) ?_|fail);(conv=>whnf)))
      obtain ⟨p12, h7_⟩ := grdO h7_
      refine ⟨[], y8.length, (.ints .i32 y8), ⟨rfl, rfl, fun j hj => rfl⟩, trivial, fun j hj => rfl, ?_⟩
      conv => whnf
      refine ⟨by simp [Row.len]; try omega, p12, by omega, ?_⟩
      have e := Option.some.inj h7_; subst e
      ((conv=>whnf);repeat((first|refine Ta ?_|refine Tz mix ?_|refine Tc ?_|refine Tb ?_|refine Td rfl ?_|refine Tl ?_|refine sE rfl ?_|refine dG (by kernel_rfl) ?_|fail);(conv=>whnf)))
      exact hn7 _ ((s5.1 ++ y8), (IntKind.wrap .i64 (s5.2 + (1 : Int)))) hs7 (weak_gen [0, 2] rfl rfl (storeLe.cons rfl (objLe.mk id id (rowLe_vals (valsLe.cons (cellsLe_refl rfl) valsLe.nil))) (storeLe.cons rfl (objLe.mk id id (rowLe_ints (by first | rfl | simp))) storeLe.nil)) (slotsLe.cons (And.intro rfl (AV.Le.refl _)) (slotsLe.cons (And.intro rfl (AV.Le.of_eq (congrArg (AV.ms _) (by first | rfl | omega | (simp; omega) | simp)))) (slotsLe.cons (And.intro rfl (AV.Le.refl _)) (slotsLe.cons (And.intro rfl (AV.Le.refl _)) (slotsLe.cons (And.intro rfl (AV.Le.refl _)) slotsLe.nil))))))
    · have e := Option.some.inj h7_; subst e
      have e := done_out hs7; subst e
      ((conv=>whnf);repeat((first|refine Ta ?_|refine Tz mix ?_|refine Tc ?_|refine Tb ?_|refine Td rfl ?_|refine Tl ?_|refine sE rfl ?_|refine dG (by kernel_rfl) ?_|fail);(conv=>whnf)))
      exact hn10 _ s5.1 h (weak_gen [0, 1] rfl rfl (storeLe.cons rfl (objLe.mk id id (rowLe_vals (valsLe.cons (cellsLe_refl rfl) valsLe.nil))) (storeLe.cons rfl (objLe.mk id id (rowLe_ints (by first | rfl | simp))) storeLe.nil)) (slotsLe.cons (And.intro rfl (AV.Le.refl _)) (slotsLe.cons (And.intro rfl (AV.Le.of_eq (congrArg (AV.ms _) (by first | rfl | omega | (simp; omega) | simp)))) slotsLe.nil)))
  · clear h h10
    intro s1 hc13
    ((conv=>whnf);repeat((first|refine Ta ?_|refine Tz mix ?_|refine Tc ?_|refine Tb ?_|refine Td rfl ?_|refine Tl ?_|refine sE rfl ?_|refine dG (by kernel_rfl) ?_|fail);(conv=>whnf)))
    refine bnd hc13 (fun y3 hy3 hc13 => ?_)
    refine Or.inl ⟨_, c_decomp_Order _ _ _ hy3, rfl, ?_⟩
    have e := Option.some.inj hc13; subst e
    ((conv=>whnf);repeat((first|refine Ta ?_|refine Tz mix ?_|refine Tc ?_|refine Tb ?_|refine Td rfl ?_|refine Tl ?_|refine sE rfl ?_|refine dG (by kernel_rfl) ?_|fail);(conv=>whnf)))
    exact And.intro (AV.Le.refl _) rfl
theorem c_slices_Equal_rune_rune (p_s1 : (List Int)) (p_s2 : (List Int)) (r : Bool) (h : m_slices_Equal_rune_rune p_s1 p_s2 = some r) : Contract pl 112 [(e_L_i32 p_s1), (e_L_i32 p_s2)] [] (AV.bool r) [] := by
  refine contract_of (.t false .z (.t false .z (.t true .z .z))) Tryd.func112 rfl (by kernel_rfl) ?_
  ((conv=>whnf);repeat((first|refine Ta ?_|refine Tz mix ?_|refine Tc ?_|refine Tb ?_|refine Td rfl ?_|refine Tl ?_|refine sE rfl ?_|refine dG (by kernel_rfl) ?_|fail);(conv=>whnf)))
  refine br_b rfl h (fun c10 h => ?_) (fun c10 h => ?_)
  · have e := Option.some.inj h; subst e
    ((conv=>whnf);repeat((first|refine Ta ?_|refine Tz mix ?_|refine Tc ?_|refine Tb ?_|refine Td rfl ?_|refine Tl ?_|refine sE rfl ?_|refine dG (by kernel_rfl) ?_|fail);(conv=>whnf)))
    exact And.intro (AV.Le.refl _) rfl
  · ((conv=>whnf);repeat((first|refine Ta ?_|refine Tz mix ?_|refine Tc ?_|refine Tb ?_|refine Td rfl ?_|refine Tl ?_|refine sE rfl ?_|refine dG (by kernel_rfl) ?_|fail);(conv=>whnf)))
    refine bnd h (fun x11 h11 h => ?_)
    refine cut_at (fun s1 : Unit => mkF 26 [] []) (fun s1 : Unit => some true = some r) ?_ ?_
    · intro Kn11 hn11
      ((conv=>whnf);repeat((first|refine Ta ?_|refine Tz mix ?_|refine Tc ?_|refine Tb ?_|refine Td rfl ?_|refine Tl ?_|refine sE rfl ?_|refine dG (by kernel_rfl) ?_|fail);(conv=>whnf)))
      refine loop_iter (fun s4 : Int => mkF 26 [(0, (e_L_i32 p_s1)), (1, (e_L_i32 p_s2)), (12, (.int .i64 ((p_s1.length : Nat) : Int))), (13, (.int .i64 s4))] []) h11 (weak_gen [] rfl rfl storeLe.nil (slotsLe.cons (And.intro rfl (AV.Le.refl _)) (slotsLe.cons (And.intro rfl (AV.Le.refl _)) (slotsLe.cons (And.intro rfl (AV.Le.refl _)) (slotsLe.cons (And.intro rfl (AV.Le.refl _)) slotsLe.nil))))) ?_
      intro k6 s4 st6 Kn6 hn6 h6_ hs6
      ((conv=>whnf);repeat((first|refine Ta ?_|refine Tz mix ?_|refine Tc ?_|refine Tb ?_|refine Td rfl ?_|refine Tl ?_|refine sE rfl ?_|refine dG (by kernel_rfl) ?_|fail);(conv=>whnf)))
      refine br_b rfl h6_ (fun c12 h6_ => ?_) (fun c12 h6_ => ?_)
      · ((conv=>whnf);repeat((first|refine Ta ?_|refine Tz mix ?_|refine Tc ?_|refine Tb ?_|refine Td rfl ?_|refine Tl ?_|refine sE rfl ?_|refine dG (by kernel_rfl) ?_|fail);(conv=>whnf)))
        refine grd2 rfl rfl h6_ (fun h6_ => ?_)
        ((conv=>whnf);repeat((first|refine Ta ?_|refine Tz mix ?_|refine Tc ?_|refine Tb ?_|refine Td rfl ?_|refine Tl ?_|refine sE rfl ?_|refine dG (by kernel_rfl) ?_|fail);(conv=>whnf)))
        refine grd2 rfl rfl h6_ (fun h6_ => ?_)
        ((conv=>whnf);repeat((first|refine Ta ?_|refine Tz mix ?_|refine Tc ?_|refine Tb ?_|refine Td rfl ?_|refine Tl ?_|refine sE rfl ?_|refine dG (by kernel_rfl) ?_|fail);(conv=>whnf)))
        refine br_b rfl h6_ (fun c13 h6_ => ?_) (fun c13 h6_ => ?_)
        · have e := Option.some.inj h6_; subst e
          have e := done_out hs6; subst e
          have e := Option.some.inj h; subst e
          ((conv=>whnf);repeat((first|refine Ta ?_|refine Tz mix ?_|refine Tc ?_|refine Tb ?_|refine Td rfl ?_|refine Tl ?_|refine sE rfl ?_|refine dG (by kernel_rfl) ?_|fail);(conv=>whnf)))
          exact And.intro (AV.Le.refl _) rfl
        · have e := Option.some.inj h6_; subst e
          ((conv=>whnf);repeat((first|refine Ta ?_|refine Tz mix ?_|refine Tc ?_|refine Tb ?_|refine Td rfl ?_|refine Tl ?_|refine sE rfl ?_|refine dG (by kernel_rfl) ?_|fail);(conv=>whnf)))
          exact hn6 _ (IntKind.wrap .i64 (s4 + (1 : Int))) hs6 (weak_gen [] rfl rfl storeLe.nil (slotsLe.cons (And.intro rfl (AV.Le.refl _)) (slotsLe.cons (And.intro rfl (AV.Le.refl _)) (slotsLe.cons (And.intro rfl (AV.Le.refl _)) (slotsLe.cons (And.intro rfl (AV.Le.refl _)) slotsLe.nil)))))
      · have e := Option.some.inj h6_; subst e
        have e := done_out hs6; subst e
        ((conv=>whnf);repeat((first|refine Ta ?_|refine Tz mix ?_|refine Tc ?_|refine Tb ?_|refine Td rfl ?_|refine Tl ?_|refine sE rfl ?_|refine dG (by kernel_rfl) ?_|fail);(conv=>whnf)))
        exact hn11 _ () h (weak_gen [] rfl rfl storeLe.nil slotsLe.nil)
    · clear h h11
      intro s1 hc14
      have e := Option.some.inj hc14; subst e
      ((conv=>whnf);repeat((first|refine Ta ?_|refine Tz mix ?_|refine Tc ?_|refine Tb ?_|refine Td rfl ?_|refine Tl ?_|refine sE rfl ?_|refine dG (by kernel_rfl) ?_|fail);(conv=>whnf)))
      exact And.intro (AV.Le.refl _) rfl
theorem c_decomp_Is (p_t : T_api_Norm) (p_l : (List Int)) (r : Bool) (h : m_decomp_Is p_t p_l = some r) : Contract pl 65 [(e_api_Norm p_t), (e_L_i32 p_l)] [] (AV.bool r) [] := by
  refine contract_of .z Tryd.func65 rfl (by kernel_rfl) ?_
  ((conv=>whnf);repeat((first|refine Ta ?_|refine Tz mix ?_|refine Tc ?_|refine Tb ?_|refine Td rfl ?_|refine Tl ?_|refine sE rfl ?_|refine dG (by kernel_rfl) ?_|fail);(conv=>whnf)))
  refine bnd h (fun y1 hy1 h => ?_)
  refine Or.inl ⟨_, c_decomp_All _ _ _ hy1, rfl, ?_⟩
  ((conv=>whnf);repeat((first|refine Ta ?_|refine Tz mix ?_|refine Tc ?_|refine Tb ?_|refine Td rfl ?_|refine Tl ?_|refine sE rfl ?_|refine dG (by kernel_rfl) ?_|fail);(conv=>whnf)))
  refine bnd h (fun y2 hy2 h => ?_)
  refine Or.inl ⟨_, c_slices_Equal_rune_rune _ _ _ hy2, rfl, ?_⟩
  have e := Option.some.inj h; subst e
  ((conv=>whnf);repeat((first|refine Ta ?_|refine Tz mix ?_|refine Tc ?_|refine Tb ?_|refine Td rfl ?_|refine Tl ?_|refine sE rfl ?_|refine dG (by kernel_rfl) ?_|fail);(conv=>whnf)))
  exact And.intro (AV.Le.refl _) rfl
theorem c_eponymlaw04_DecompStays (p_t : T_api_Norm) (p_a : (List Int)) (p_b : (List Int)) (r : Bool) (h : m_eponymlaw04_DecompStays p_t p_a p_b = some r) : Contract pl 15 [(e_api_Norm p_t), (e_L_i32 p_a), (e_L_i32 p_b)] [] (AV.bool r) [] := by
  refine contract_of (.t false .z (.t false .z (.t false (.t true .z .z) (.t false .z (.t false .z (.t false .z (.t true .z .z))))))) Tryd.func15 rfl (by kernel_rfl) ?_
  ((conv=>whnf);repeat((first|refine Ta ?_|refine Tz mix ?_|refine Tc ?_|refine Tb ?_|refine Td rfl ?_|refine Tl ?_|refine sE rfl ?_|refine dG (by kernel_rfl) ?_|fail);(conv=>whnf)))
  refine bnd h (fun y1 hy1 h => ?_)
  refine Or.inl ⟨_, c_eponymlaw04_awake  _ hy1, rfl, ?_⟩
  ((conv=>whnf);repeat((first|refine Ta ?_|refine Tz mix ?_|refine Tc ?_|refine Tb ?_|refine Td rfl ?_|refine Tl ?_|refine sE rfl ?_|refine dG (by kernel_rfl) ?_|fail);(conv=>whnf)))
  refine br_b rfl h (fun c16 h => ?_) (fun c16 h => ?_)
  · have e := Option.some.inj h; subst e
    ((conv=>whnf);repeat((first|refine Ta ?_|refine Tz mix ?_|refine Tc ?_|refine Tb ?_|refine Td rfl ?_|refine Tl ?_|refine sE rfl ?_|refine dG (by kernel_rfl) ?_|fail);(conv=>whnf)))
    exact And.intro (AV.Le.refl _) rfl
  · ((conv=>whnf);repeat((first|refine Ta ?_|refine Tz mix ?_|refine Tc ?_|refine Tb ?_|refine Td rfl ?_|refine Tl ?_|refine sE rfl ?_|refine dG (by kernel_rfl) ?_|fail);(conv=>whnf)))
    refine bnd h (fun x17 h17 h => ?_)
    refine cut_at (fun s2 : Bool => mkF 65 [(1, (e_L_i32 p_a)), (2, (e_L_i32 p_b)), (3, (.mp 0 0 0)), (29, (.bool s2))] [some ⟨3, 40, (.vals [(e_api_Norm p_t)]), false, false⟩]) (fun s2 : Bool => m_eponymlaw04_DecompStays_K3 p_t p_a p_b s2 = some r) ?_ ?_
    · intro Kn17 hn17
      ((conv=>whnf);repeat((first|refine Ta ?_|refine Tz mix ?_|refine Tc ?_|refine Tb ?_|refine Td rfl ?_|refine Tl ?_|refine sE rfl ?_|refine dG (by kernel_rfl) ?_|fail);(conv=>whnf)))
      refine bnd h17 (fun y14 hy14 h17 => ?_)
      refine Or.inl ⟨_, c_eponymlaw04_Great _ _ hy14, rfl, ?_⟩
      ((conv=>whnf);repeat((first|refine Ta ?_|refine Tz mix ?_|refine Tc ?_|refine Tb ?_|refine Td rfl ?_|refine Tl ?_|refine sE rfl ?_|refine dG (by kernel_rfl) ?_|fail);(conv=>whnf)))
      refine br_b rfl h17 (fun c18 h17 => ?_) (fun c18 h17 => ?_)
      · have e := Option.some.inj h17; subst e
        ((conv=>whnf);repeat((first|refine Ta ?_|refine Tz mix ?_|refine Tc ?_|refine Tb ?_|refine Td rfl ?_|refine Tl ?_|refine sE rfl ?_|refine dG (by kernel_rfl) ?_|fail);(conv=>whnf)))
        exact hn17 _ true h (weak_gen [0] rfl rfl (storeLe.cons rfl (objLe.mk id id (rowLe_vals (valsLe.cons (cellsLe_refl rfl) valsLe.nil))) storeLe.nil) (slotsLe.cons (And.intro rfl (AV.Le.refl _)) (slotsLe.cons (And.intro rfl (AV.Le.refl _)) (slotsLe.cons (And.intro rfl (AV.Le.refl _)) (slotsLe.cons (And.intro rfl (AV.Le.refl _)) slotsLe.nil)))))
      · ((conv=>whnf);repeat((first|refine Ta ?_|refine Tz mix ?_|refine Tc ?_|refine Tb ?_|refine Td rfl ?_|refine Tl ?_|refine sE rfl ?_|refine dG (by kernel_rfl) ?_|fail);(conv=>whnf)))
        refine br_b rfl h17 (fun c19 h17 => ?_) (fun c19 h17 => ?_)
        · have e := Option.some.inj h17; subst e
          ((conv=>whnf);repeat((first|refine Ta ?_|refine Tz mix ?_|refine Tc ?_|refine Tb ?_|refine Td rfl ?_|refine Tl ?_|refine sE rfl ?_|refine dG (by kernel_rfl) ?_|fail);(conv=>whnf)))
          exact hn17 _ true h (weak_gen [0] rfl rfl (storeLe.cons rfl (objLe.mk id id (rowLe_vals (valsLe.cons (cellsLe_refl rfl) valsLe.nil))) storeLe.nil) (slotsLe.cons (And.intro rfl (AV.Le.refl _)) (slotsLe.cons (And.intro rfl (AV.Le.refl _)) (slotsLe.cons (And.intro rfl (AV.Le.refl _)) (slotsLe.cons (And.intro rfl (AV.Le.refl _)) slotsLe.nil)))))
        · ((conv=>whnf);repeat((first|refine Ta ?_|refine Tz mix ?_|refine Tc ?_|refine Tb ?_|refine Td rfl ?_|refine Tl ?_|refine sE rfl ?_|refine dG (by kernel_rfl) ?_|fail);(conv=>whnf)))
          refine br_b rfl h17 (fun c20 h17 => ?_) (fun c20 h17 => ?_)
          · have e := Option.some.inj h17; subst e
            ((conv=>whnf);repeat((first|refine Ta ?_|refine Tz mix ?_|refine Tc ?_|refine Tb ?_|refine Td rfl ?_|refine Tl ?_|refine sE rfl ?_|refine dG (by kernel_rfl) ?_|fail);(conv=>whnf)))
            exact hn17 _ true h (weak_gen [0] rfl rfl (storeLe.cons rfl (objLe.mk id id (rowLe_vals (valsLe.cons (cellsLe_refl rfl) valsLe.nil))) storeLe.nil) (slotsLe.cons (And.intro rfl (AV.Le.refl _)) (slotsLe.cons (And.intro rfl (AV.Le.refl _)) (slotsLe.cons (And.intro rfl (AV.Le.refl _)) (slotsLe.cons (And.intro rfl (AV.Le.refl _)) slotsLe.nil)))))
          · ((conv=>whnf);repeat((first|refine Ta ?_|refine Tz mix ?_|refine Tc ?_|refine Tb ?_|refine Td rfl ?_|refine Tl ?_|refine sE rfl ?_|refine dG (by kernel_rfl) ?_|fail);(conv=>whnf)))
            refine bnd h17 (fun y15 hy15 h17 => ?_)
            refine Or.inl ⟨_, c_decomp_Check _ _ hy15, rfl, ?_⟩
            have e := Option.some.inj h17; subst e
            ((conv=>whnf);repeat((first|refine Ta ?_|refine Tz mix ?_|refine Tc ?_|refine Tb ?_|refine Td rfl ?_|refine Tl ?_|refine sE rfl ?_|refine dG (by kernel_rfl) ?_|fail);(conv=>whnf)))
            exact hn17 _ (!y15.isNil) h (weak_gen [0] rfl rfl (storeLe.cons rfl (objLe.mk id id (rowLe_vals (valsLe.cons (cellsLe_refl rfl) valsLe.nil))) storeLe.nil) (slotsLe.cons (And.intro rfl (AV.Le.refl _)) (slotsLe.cons (And.intro rfl (AV.Le.refl _)) (slotsLe.cons (And.intro rfl (AV.Le.refl _)) (slotsLe.cons (And.intro rfl (AV.Le.refl _)) slotsLe.nil)))))
    · clear h h17
      intro s2 hc21
      ((conv=>whnf);repeat((first|refine Ta ?_|refine Tz mix ?_|refine Tc ?_|refine Tb ?_|refine Td rfl ?_|refine Tl ?_|refine sE rfl ?_|refine dG (by kernel_rfl) ?_|fail);(conv=>whnf)))
      refine br_b rfl hc21 (fun c22 hc21 => ?_) (fun c22 hc21 => ?_)
      · have e := Option.some.inj hc21; subst e
        ((conv=>whnf);repeat((first|refine Ta ?_|refine Tz mix ?_|refine Tc ?_|refine Tb ?_|refine Td rfl ?_|refine Tl ?_|refine sE rfl ?_|refine dG (by kernel_rfl) ?_|fail);(conv=>whnf)))
        exact And.intro (AV.Le.refl _) rfl
      · ((conv=>whnf);repeat((first|refine Ta ?_|refine Tz mix ?_|refine Tc ?_|refine Tb ?_|refine Td rfl ?_|refine Tl ?_|refine sE rfl ?_|refine dG (by kernel_rfl) ?_|fail);(conv=>whnf)))
        refine bnd hc21 (fun y4 hy4 hc21 => ?_)
        refine Or.inl ⟨_, c_decomp_All _ _ _ hy4, rfl, ?_⟩
        ((conv=>whnf);repeat((first|refine Ta ?_|refine Tz mix ?_|refine Tc ?_|refine Tb ?_|refine Td rfl ?_|refine Tl ?_|refine sE rfl ?_|refine dG (by kernel_rfl) ?_|fail);(conv=>whnf)))
        refine bnd hc21 (fun y5 hy5 hc21 => ?_)
        refine Or.inl ⟨_, c_decomp_All _ _ _ hy5, rfl, ?_⟩
        ((conv=>whnf);repeat((first|refine Ta ?_|refine Tz mix ?_|refine Tc ?_|refine Tb ?_|refine Td rfl ?_|refine Tl ?_|refine sE rfl ?_|refine dG (by kernel_rfl) ?_|fail);(conv=>whnf)))
        obtain ⟨p23, hc21⟩ := grdO hc21
        refine ⟨[], p_a.length, (.ints .i32 p_a), ⟨rfl, rfl, fun j hj => rfl⟩, trivial, fun j hj => rfl, ?_⟩
        conv => whnf
        refine ⟨by simp [Row.len]; try omega, p23, by omega, ?_⟩
        ((conv=>whnf);repeat((first|refine Ta ?_|refine Tz mix ?_|refine Tc ?_|refine Tb ?_|refine Td rfl ?_|refine Tl ?_|refine sE rfl ?_|refine dG (by kernel_rfl) ?_|fail);(conv=>whnf)))
        obtain ⟨p24, hc21⟩ := grdO hc21
        refine ⟨[], p_b.length, (.ints .i32 p_b), ⟨rfl, rfl, fun j hj => rfl⟩, trivial, fun j hj => rfl, ?_⟩
        conv => whnf
        refine ⟨by simp [Row.len]; try omega, p24, by omega, ?_⟩
        ((conv=>whnf);repeat((first|refine Ta ?_|refine Tz mix ?_|refine Tc ?_|refine Tb ?_|refine Td rfl ?_|refine Tl ?_|refine sE rfl ?_|refine dG (by kernel_rfl) ?_|fail);(conv=>whnf)))
        refine bnd hc21 (fun x25 h25 hc21 => ?_)
        refine cut_at (fun s6 : (List Int) × (List Int) => mkF 65 [(3, (.mp 0 0 0)), (7, (e_L_i32 y4)), (9, (e_L_i32 s6.1)), (10, (e_L_i32 s6.2))] [some ⟨3, 40, (.vals [(e_api_Norm p_t)]), false, false⟩]) (fun s6 : (List Int) × (List Int) => m_eponymlaw04_DecompStays_K7 p_t y4 s6 = some r) ?_ ?_
        · intro Kn25 hn25
          ((conv=>whnf);repeat((first|refine Ta ?_|refine Tz mix ?_|refine Tc ?_|refine Tb ?_|refine Td rfl ?_|refine Tl ?_|refine sE rfl ?_|refine dG (by kernel_rfl) ?_|fail);(conv=>whnf)))
          obtain ⟨p26, h25⟩ := grdO h25
          refine ⟨[], y4.length, (.ints .i32 y4), ⟨rfl, rfl, fun j hj => rfl⟩, trivial, fun j hj => rfl, ?_⟩
          conv => whnf
          refine ⟨by simp [Row.len]; try omega, p26, by omega, ?_⟩
          ((conv=>whnf);repeat((first|refine Ta ?_|refine Tz mix ?_|refine Tc ?_|refine Tb ?_|refine Td rfl ?_|refine Tl ?_|refine sE rfl ?_|refine dG (by kernel_rfl) ?_|fail);(conv=>whnf)))
          obtain ⟨p27, h25⟩ := grdO h25
          refine ⟨[], y5.length, (.ints .i32 y5), ⟨rfl, rfl, fun j hj => rfl⟩, trivial, fun j hj => rfl, ?_⟩
          conv => whnf
          refine ⟨by simp [Row.len]; try omega, p27, by omega, ?_⟩
          have e := Option.some.inj h25; subst e
          ((conv=>whnf);repeat((first|refine Ta ?_|refine Tz mix ?_|refine Tc ?_|refine Tb ?_|refine Td rfl ?_|refine Tl ?_|refine sE rfl ?_|refine dG (by kernel_rfl) ?_|fail);(conv=>whnf)))
          exact hn25 _ ((p_a ++ p_b), (y4 ++ y5)) hc21 (weak_trans (weak_snap 9 _ rfl) (weak_trans (weak_snap 10 _ rfl) (weak_gen [0] rfl rfl (storeLe.cons rfl (objLe.mk id id (rowLe_vals (valsLe.cons (cellsLe_refl rfl) valsLe.nil))) storeLe.nil) (slotsLe.cons (And.intro rfl (AV.Le.refl _)) (slotsLe.cons (And.intro rfl (AV.Le.refl _)) (slotsLe.cons (And.intro rfl (AV.Le.list (by simp; try omega) (fun j hj => by first | rfl | rw [getD_sub hj] | (rw [getD_take hj]; simp) | simp))) (slotsLe.cons (And.intro rfl (AV.Le.list (by simp; try omega) (fun j hj => by first | rfl | rw [getD_sub hj] | (rw [getD_take hj]; simp) | simp))) slotsLe.nil)))))))
        · clear hc21 h25
          intro s6 hc28
          ((conv=>whnf);repeat((first|refine Ta ?_|refine Tz mix ?_|refine Tc ?_|refine Tb ?_|refine Td rfl ?_|refine Tl ?_|refine sE rfl ?_|refine dG (by kernel_rfl) ?_|fail);(conv=>whnf)))
          refine bnd hc28 (fun y8 hy8 hc28 => ?_)
          refine Or.inl ⟨_, c_decomp_Is _ _ _ hy8, rfl, ?_⟩
          ((conv=>whnf);repeat((first|refine Ta ?_|refine Tz mix ?_|refine Tc ?_|refine Tb ?_|refine Td rfl ?_|refine Tl ?_|refine sE rfl ?_|refine dG (by kernel_rfl) ?_|fail);(conv=>whnf)))
          refine br_b rfl hc28 (fun c29 hc28 => ?_) (fun c29 hc28 => ?_)
          · ((conv=>whnf);repeat((first|refine Ta ?_|refine Tz mix ?_|refine Tc ?_|refine Tb ?_|refine Td rfl ?_|refine Tl ?_|refine sE rfl ?_|refine dG (by kernel_rfl) ?_|fail);(conv=>whnf)))
            refine bnd hc28 (fun y9 hy9 hc28 => ?_)
            refine Or.inl ⟨_, c_decomp_All _ _ _ hy9, rfl, ?_⟩
            ((conv=>whnf);repeat((first|refine Ta ?_|refine Tz mix ?_|refine Tc ?_|refine Tb ?_|refine Td rfl ?_|refine Tl ?_|refine sE rfl ?_|refine dG (by kernel_rfl) ?_|fail);(conv=>whnf)))
            refine bnd hc28 (fun y10 hy10 hc28 => ?_)
            refine Or.inl ⟨_, c_eponymlaw01_Same _ _ _ hy10, rfl, ?_⟩
            ((conv=>whnf);repeat((first|refine Ta ?_|refine Tz mix ?_|refine Tc ?_|refine Tb ?_|refine Td rfl ?_|refine Tl ?_|refine sE rfl ?_|refine dG (by kernel_rfl) ?_|fail);(conv=>whnf)))
            refine br_b rfl hc28 (fun c30 hc28 => ?_) (fun c30 hc28 => ?_)
            · ((conv=>whnf);repeat((first|refine Ta ?_|refine Tz mix ?_|refine Tc ?_|refine Tb ?_|refine Td rfl ?_|refine Tl ?_|refine sE rfl ?_|refine dG (by kernel_rfl) ?_|fail);(conv=>whnf)))
              refine bnd hc28 (fun y11 hy11 hc28 => ?_)
              refine Or.inl ⟨_, c_decomp_All _ _ _ hy11, rfl, ?_⟩
              ((conv=>whnf);repeat((first|refine Ta ?_|refine Tz mix ?_|refine Tc ?_|refine Tb ?_|refine Td rfl ?_|refine Tl ?_|refine sE rfl ?_|refine dG (by kernel_rfl) ?_|fail);(conv=>whnf)))
              refine bnd hc28 (fun y12 hy12 hc28 => ?_)
              refine Or.inl ⟨_, c_decomp_All _ _ _ hy12, rfl, ?_⟩
              ((conv=>whnf);repeat((first|refine Ta ?_|refine Tz mix ?_|refine Tc ?_|refine Tb ?_|refine Td rfl ?_|refine Tl ?_|refine sE rfl ?_|refine dG (by kernel_rfl) ?_|fail);(conv=>whnf)))
              refine bnd hc28 (fun y13 hy13 hc28 => ?_)
              refine Or.inl ⟨_, c_eponymlaw01_Same _ _ _ hy13, rfl, ?_⟩
              have e := Option.some.inj hc28; subst e
              ((conv=>whnf);repeat((first|refine Ta ?_|refine Tz mix ?_|refine Tc ?_|refine Tb ?_|refine Td rfl ?_|refine Tl ?_|refine sE rfl ?_|refine dG (by kernel_rfl) ?_|fail);(conv=>whnf)))
              exact And.intro (AV.Le.refl _) rfl
            · have e := Option.some.inj hc28; subst e
              ((conv=>whnf);repeat((first|refine Ta ?_|refine Tz mix ?_|refine Tc ?_|refine Tb ?_|refine Td rfl ?_|refine Tl ?_|refine sE rfl ?_|refine dG (by kernel_rfl) ?_|fail);(conv=>whnf)))
              exact And.intro (AV.Le.refl _) rfl
          · have e := Option.some.inj hc28; subst e
            ((conv=>whnf);repeat((first|refine Ta ?_|refine Tz mix ?_|refine Tc ?_|refine Tb ?_|refine Td rfl ?_|refine Tl ?_|refine sE rfl ?_|refine dG (by kernel_rfl) ?_|fail);(conv=>whnf)))
            exact And.intro (AV.Le.refl _) rfl
end Go.Proofs.YtjhgaacecfmadaaDoor
