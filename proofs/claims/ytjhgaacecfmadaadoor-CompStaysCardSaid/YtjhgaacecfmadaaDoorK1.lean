/- Contracts of functions, walked by their models; printed by a program of ours. No condition. -/
import Derived.Test.YtjhgaacecfmadaaDoorK0
import Derived.Test.YtjhgaacecfmadaaDoorProg
import Derived.KernelRfl
namespace Go.Proofs.YtjhgaacecfmadaaDoor
open Go Go.SE
set_option linter.unusedVariables false
set_option linter.unusedSimpArgs false
set_option maxRecDepth 10000
set_option maxHeartbeats 2000000
attribute [local irreducible] Contract iter
theorem c_decomp_All (p_t : T_api_Norm) (p_l : (List Int)) (r : (List Int)) (h : m_decomp_All p_t p_l = some r) : Contract pl 62 [(e_api_Norm p_t), (e_L_i32 p_l)] [] (e_L_i32 r) [] := by
  refine contract_of (.t false .z (.t false .z (.t true .z .z))) Tryd.func62 rfl (by kernel_rfl) ?_
  ((conv=>whnf);repeat((first|refine Ta ?_|refine Tz mix ?_|refine Tc ?_|refine Tb ?_|refine Td rfl ?_|refine Tl ?_|refine sE rfl ?_|refine dG (by kernel_rfl) ?_|fail);(conv=>whnf)))
  refine bnd h (fun x10 h10 h => ?_)
  refine cut_at (fun s1 : (List Int) => mkF 23 [(2, (.mp 0 0 0)), (5, (.ms 1 s1.length))] [some ⟨3, 40, (.vals [(e_api_Norm p_t)]), false, false⟩, some ⟨1, 21, (.ints .i32 s1), false, true⟩]) (fun s1 : (List Int) => m_decomp_All_K2 p_t s1 = some r) ?_ ?_
  · intro Kn10 hn10
    ((conv=>whnf);repeat((first|refine Ta ?_|refine Tz mix ?_|refine Tc ?_|refine Tb ?_|refine Td rfl ?_|refine Tl ?_|refine sE rfl ?_|refine dG (by kernel_rfl) ?_|fail);(conv=>whnf)))
    refine loop_iter (fun s5 : (List Int) × Int => mkF 23 [(2, (.mp 0 0 0)), (5, (.ms 1 s5.1.length)), (8, (e_L_i32 p_l)), (9, (.int .i64 ((p_l.length : Nat) : Int))), (10, (.int .i64 s5.2))] [some ⟨3, 40, (.vals [(e_api_Norm p_t)]), false, false⟩, some ⟨1, 21, (.ints .i32 s5.1), false, true⟩]) h10 (weak_trans (weak_nil 5 1 21 (.ints .i32 []) _ rfl rfl trivial (Nat.zero_le _)) (weak_gen [0, 1] rfl rfl (storeLe.cons rfl (objLe.mk id id (rowLe_vals (valsLe.cons (cellsLe_refl rfl) valsLe.nil))) (storeLe.cons rfl (objLe.mk id id (rowLe_ints (by first | rfl | simp))) storeLe.nil)) (slotsLe.cons (And.intro rfl (AV.Le.refl _)) (slotsLe.cons (And.intro rfl (AV.Le.refl _)) (slotsLe.cons (And.intro rfl (AV.Le.refl _)) (slotsLe.cons (And.intro rfl (AV.Le.refl _)) (slotsLe.cons (And.intro rfl (AV.Le.refl _)) slotsLe.nil))))))) ?_
    intro k7 s5 st7 Kn7 hn7 h7_ hs7
    ((conv=>whnf);repeat((first|refine Ta ?_|refine Tz mix ?_|refine Tc ?_|refine Tb ?_|refine Td rfl ?_|refine Tl ?_|refine sE rfl ?_|refine dG (by kernel_rfl) ?_|fail);(conv=>whnf)))
    refine br_b rfl h7_ (fun c11 h7_ => ?_) (fun c11 h7_ => ?_)
    · ((conv=>whnf);repeat((first|refine Ta ?_|refine Tz mix ?_|refine Tc ?_|refine Tb ?_|refine Td rfl ?_|refine Tl ?_|refine sE rfl ?_|refine dG (by kernel_rfl) ?_|fail);(conv=>whnf)))
      refine grd2 rfl rfl h7_ (fun h7_ => ?_)
      ((conv=>whnf);repeat((first|refine Ta ?_|refine Tz mix ?_|refine Tc ?_|refine Tb ?_|refine Td rfl ?_|refine Tl ?_|refine sE rfl ?_|refine dG (by kernel_rfl) ?_|fail);(conv=>whnf)))
      refine bnd h7_ (fun y8 hy8 h7_ => ?_)
      refine Or.inl ⟨_, c_decomp_One _ _ _ hy8, rfl, ?_⟩
      ((conv=>whnf);repeat((first|refine Ta ?_|refine Tz mix ?_|refine Tc ?_|refine Tb ?_|refine Td rfl ?_|refine Tl ?_|refine sE rfl ?_|refine dG (by kernel_rfl) ?_|fail);(conv=>whnf)))
      obtain ⟨p12, h7_⟩ := grdO h7_
      refine ⟨[], y8.length, (.ints .i32 y8), ⟨rfl, rfl, fun j hj => rfl⟩, trivial, fun j hj => rfl, ?_⟩
      conv => whnf
      refine ⟨by simp [Row.len]; try omega, p12, by omega, ?_⟩
      have e := Option.some.inj h7_; subst e
      ((conv=>whnf);repeat((first|refine Ta ?_|refine Tz mix ?_|refine Tc ?_|refine Tb ?_|refine Td rfl ?_|refine Tl ?_|refine sE rfl ?_|refine dG (by kernel_rfl) ?_|fail);(conv=>whnf)))
      exact hn7 _ ((s5.1 ++ y8), (IntKind.wrap .i64 (s5.2 + (1 : Int)))) hs7 (weak_gen [0, 2] rfl rfl (storeLe.cons rfl (objLe.mk id id (rowLe_vals (valsLe.cons (cellsLe_refl rfl) valsLe.nil))) (storeLe.cons rfl (objLe.mk id id (rowLe_ints (by first | rfl | simp))) storeLe.nil)) (slotsLe.cons (And.intro rfl (AV.Le.refl _)) (slotsLe.cons (And.intro rfl (AV.Le.of_eq (congrArg (AV.ms _) (by first | rfl | omega | (simp; omega) | simp)))) (slotsLe.cons (And.intro rfl (AV.Le.refl _)) (slotsLe.cons (And.intro rfl (AV.Le.refl _)) (slotsLe.cons (And.intro rfl (AV.Le.refl _)) slotsLe.nil))))))
    · have e := Option.some.inj h7_; subst e
      have e := done_out hs7; subst e
      ((conv=>whnf);repeat((first|refine Ta ?_|refine Tz mix ?_|refine Tc ?_|refine Tb ?_|refine Td rfl ?_|refine Tl ?_|refine sE rfl ?_|refine dG (by kernel_rfl) ?_|fail);(conv=>whnf)))
      exact hn10 _ s5.1 h (weak_gen [0, 1] rfl rfl (storeLe.cons rfl (objLe.mk id id (rowLe_vals (valsLe.cons (cellsLe_refl rfl) valsLe.nil))) (storeLe.cons rfl (objLe.mk id id (rowLe_ints (by first | rfl | simp))) storeLe.nil)) (slotsLe.cons (And.intro rfl (AV.Le.refl _)) (slotsLe.cons (And.intro rfl (AV.Le.of_eq (congrArg (AV.ms _) (by first | rfl | omega | (simp; omega) | simp)))) slotsLe.nil)))
  · clear h h10
    intro s1 hc13
    ((conv=>whnf);repeat((first|refine Ta ?_|refine Tz mix ?_|refine Tc ?_|refine Tb ?_|refine Td rfl ?_|refine Tl ?_|refine sE rfl ?_|refine dG (by kernel_rfl) ?_|fail);(conv=>whnf)))
    refine bnd hc13 (fun y3 hy3 hc13 => ?_)
    refine Or.inl ⟨_, c_decomp_Order _ _ _ hy3, rfl, ?_⟩
    have e := Option.some.inj hc13; subst e
    ((conv=>whnf);repeat((first|refine Ta ?_|refine Tz mix ?_|refine Tc ?_|refine Tb ?_|refine Td rfl ?_|refine Tl ?_|refine sE rfl ?_|refine dG (by kernel_rfl) ?_|fail);(conv=>whnf)))
    exact And.intro (AV.Le.refl _) rfl
theorem c_comp_row_add_own (p_w_0 : (List T_api_Row)) (p_w_1 : (List T_api_Range)) (p_w_2 : (List Int)) (p_w_4 : Int) (p_w_5 : Int) (p_r : Int) (r : (List T_api_Row) × (List T_api_Range) × (List Int) × (List Int) × Int × Int) (h : m_comp_row_add_own p_w_0 p_w_1 p_w_2 p_w_4 p_w_5 p_r = some r) : ContractM 1 pl 160 [(.mp 0 0 0), (.int .i32 p_r)] [some ⟨6, 174, (.vals [(.agg [(e_L_api_Row p_w_0), (e_L_api_Range p_w_1), (e_L_i32 p_w_2), (.sl (some true) 0 fun _ => .unk), (.int .i64 p_w_4), (.int .i64 p_w_5)])]), false, false⟩] (.tup []) [some ⟨6, 174, (.vals [(.agg [(e_L_api_Row r.1), (e_L_api_Range r.2.1), (e_L_i32 r.2.2.1), (.ms 1 r.2.2.2.1.length), (.int .i64 r.2.2.2.2.1), (.int .i64 r.2.2.2.2.2)])]), false, false⟩, some ⟨1, 21, (.ints .i32 r.2.2.2.1), false, true⟩] := by
  refine contract_own 1 (.t false .z (.t false .z (.t false (.t true .z .z) .z))) rfl Tryd.func160 rfl (by kernel_rfl) ?_
  ((conv=>whnf);repeat((first|refine Ta ?_|refine Tz mix ?_|refine Tc ?_|refine Tb ?_|refine Td rfl ?_|refine Tl ?_|refine sE rfl ?_|refine dG (by kernel_rfl) ?_|fail);(conv=>whnf)))
  refine bnd h (fun y1 hy1 h => ?_)
  refine Or.inl ⟨_, c_decomp_Class _ _ _ hy1, rfl, ?_⟩
  ((conv=>whnf);repeat((first|refine Ta ?_|refine Tz mix ?_|refine Tc ?_|refine Tb ?_|refine Td rfl ?_|refine Tl ?_|refine sE rfl ?_|refine dG (by kernel_rfl) ?_|fail);(conv=>whnf)))
  refine bnd h (fun x4 h4 h => ?_)
  refine cut_at (fun s2 : Bool => mkF 104 [(0, (.mp 0 0 0)), (1, (.int .i32 p_r)), (4, (.int .i64 y1)), (40, (.bool s2))] [some ⟨6, 174, (.vals [(.agg [(e_L_api_Row p_w_0), (e_L_api_Range p_w_1), (e_L_i32 p_w_2), (.sl (some true) 0 fun _ => .unk), (.int .i64 p_w_4), (.int .i64 p_w_5)])]), false, false⟩]) (fun s2 : Bool => m_comp_row_add_own_K3 p_w_0 p_w_1 p_w_2 p_w_4 p_w_5 p_r y1 s2 = some r) ?_ ?_
  · intro Kn4 hn4
    ((conv=>whnf);repeat((first|refine Ta ?_|refine Tz mix ?_|refine Tc ?_|refine Tb ?_|refine Td rfl ?_|refine Tl ?_|refine sE rfl ?_|refine dG (by kernel_rfl) ?_|fail);(conv=>whnf)))
    refine br_b rfl h4 (fun c5 h4 => ?_) (fun c5 h4 => ?_)
    · ((conv=>whnf);repeat((first|refine Ta ?_|refine Tz mix ?_|refine Tc ?_|refine Tb ?_|refine Td rfl ?_|refine Tl ?_|refine sE rfl ?_|refine dG (by kernel_rfl) ?_|fail);(conv=>whnf)))
      refine br_b rfl h4 (fun c6 h4 => ?_) (fun c6 h4 => ?_)
      · have e := Option.some.inj h4; subst e
        ((conv=>whnf);repeat((first|refine Ta ?_|refine Tz mix ?_|refine Tc ?_|refine Tb ?_|refine Td rfl ?_|refine Tl ?_|refine sE rfl ?_|refine dG (by kernel_rfl) ?_|fail);(conv=>whnf)))
        exact hn4 _ true h (weak_gen [0] rfl rfl (storeLe.cons rfl (objLe.mk id id (rowLe_vals (valsLe.cons (cellsLe_refl rfl) valsLe.nil))) storeLe.nil) (slotsLe.cons (And.intro rfl (AV.Le.refl _)) (slotsLe.cons (And.intro rfl (AV.Le.refl _)) (slotsLe.cons (And.intro rfl (AV.Le.refl _)) (slotsLe.cons (And.intro rfl (AV.Le.refl _)) slotsLe.nil)))))
      · have e := Option.some.inj h4; subst e
        ((conv=>whnf);repeat((first|refine Ta ?_|refine Tz mix ?_|refine Tc ?_|refine Tb ?_|refine Td rfl ?_|refine Tl ?_|refine sE rfl ?_|refine dG (by kernel_rfl) ?_|fail);(conv=>whnf)))
        exact hn4 _ (decide (p_w_5 < y1)) h (weak_gen [0] rfl rfl (storeLe.cons rfl (objLe.mk id id (rowLe_vals (valsLe.cons (cellsLe_refl rfl) valsLe.nil))) storeLe.nil) (slotsLe.cons (And.intro rfl (AV.Le.refl _)) (slotsLe.cons (And.intro rfl (AV.Le.refl _)) (slotsLe.cons (And.intro rfl (AV.Le.refl _)) (slotsLe.cons (And.intro rfl (AV.Le.refl _)) slotsLe.nil)))))
    · have e := Option.some.inj h4; subst e
      ((conv=>whnf);repeat((first|refine Ta ?_|refine Tz mix ?_|refine Tc ?_|refine Tb ?_|refine Td rfl ?_|refine Tl ?_|refine sE rfl ?_|refine dG (by kernel_rfl) ?_|fail);(conv=>whnf)))
      exact hn4 _ false h (weak_gen [0] rfl rfl (storeLe.cons rfl (objLe.mk id id (rowLe_vals (valsLe.cons (cellsLe_refl rfl) valsLe.nil))) storeLe.nil) (slotsLe.cons (And.intro rfl (AV.Le.refl _)) (slotsLe.cons (And.intro rfl (AV.Le.refl _)) (slotsLe.cons (And.intro rfl (AV.Le.refl _)) (slotsLe.cons (And.intro rfl (AV.Le.refl _)) slotsLe.nil)))))
  · clear h h4
    intro s2 hc7
    ((conv=>whnf);repeat((first|refine Ta ?_|refine Tz mix ?_|refine Tc ?_|refine Tb ?_|refine Td rfl ?_|refine Tl ?_|refine sE rfl ?_|refine dG (by kernel_rfl) ?_|fail);(conv=>whnf)))
    refine br_b rfl hc7 (fun c8 hc7 => ?_) (fun c8 hc7 => ?_)
    · ((conv=>whnf);repeat((first|refine Ta ?_|refine Tz mix ?_|refine Tc ?_|refine Tb ?_|refine Td rfl ?_|refine Tl ?_|refine sE rfl ?_|refine dG (by kernel_rfl) ?_|fail);(conv=>whnf)))
      refine grd2 rfl rfl hc7 (fun hc7 => ?_)
      cases hc7
    · ((conv=>whnf);repeat((first|refine Ta ?_|refine Tz mix ?_|refine Tc ?_|refine Tb ?_|refine Td rfl ?_|refine Tl ?_|refine sE rfl ?_|refine dG (by kernel_rfl) ?_|fail);(conv=>whnf)))
      refine ⟨[], 1, (.ints .i32 [p_r]), ⟨by simp [Row.len] <;> omega, rfl, _, rfl, by simp [Row.len] <;> omega, fun j hj => .inl rfl⟩, trivial, fun j hj => rfl, ?_⟩
      conv => whnf
      refine ⟨by decide, by decide, ?_⟩
      ((conv=>whnf);repeat((first|refine Ta ?_|refine Tz mix ?_|refine Tc ?_|refine Tb ?_|refine Td rfl ?_|refine Tl ?_|refine sE rfl ?_|refine dG (by kernel_rfl) ?_|fail);(conv=>whnf)))
      refine br_b rfl hc7 (fun c9 hc7 => ?_) (fun c9 hc7 => ?_)
      · have e := Option.some.inj hc7; subst e
        ((conv=>whnf);repeat((first|refine Ta ?_|refine Tz mix ?_|refine Tc ?_|refine Tb ?_|refine Td rfl ?_|refine Tl ?_|refine sE rfl ?_|refine dG (by kernel_rfl) ?_|fail);(conv=>whnf)))
        exact Or.inr (Or.inr (weak_gen [0, 2] rfl rfl (storeLe.cons rfl (objLe.mk id id (rowLe_vals (valsLe.cons (cellsLe.cons (And.intro rfl (AV.Le.refl _)) (cellsLe.cons (And.intro rfl (AV.Le.refl _)) (cellsLe.cons (And.intro rfl (AV.Le.refl _)) (cellsLe.cons (And.intro rfl (AV.Le.of_eq (congrArg (AV.ms _) (by first | rfl | omega | (simp; omega) | simp)))) (cellsLe.cons (And.intro rfl (AV.Le.refl _)) (cellsLe.cons (And.intro rfl (AV.Le.refl _)) cellsLe.nil)))))) valsLe.nil))) (storeLe.cons rfl (objLe.mk id id (rowLe_ints (by first | rfl | simp))) storeLe.nil)) (slotsLe.cons (And.intro rfl (AV.Le.refl _)) slotsLe.nil)))
      · have e := Option.some.inj hc7; subst e
        ((conv=>whnf);repeat((first|refine Ta ?_|refine Tz mix ?_|refine Tc ?_|refine Tb ?_|refine Td rfl ?_|refine Tl ?_|refine sE rfl ?_|refine dG (by kernel_rfl) ?_|fail);(conv=>whnf)))
        exact Or.inr (Or.inr (weak_gen [0, 2] rfl rfl (storeLe.cons rfl (objLe.mk id id (rowLe_vals (valsLe.cons (cellsLe.cons (And.intro rfl (AV.Le.refl _)) (cellsLe.cons (And.intro rfl (AV.Le.refl _)) (cellsLe.cons (And.intro rfl (AV.Le.refl _)) (cellsLe.cons (And.intro rfl (AV.Le.of_eq (congrArg (AV.ms _) (by first | rfl | omega | (simp; omega) | simp)))) (cellsLe.cons (And.intro rfl (AV.Le.refl _)) (cellsLe.cons (And.intro rfl (AV.Le.refl _)) cellsLe.nil)))))) valsLe.nil))) (storeLe.cons rfl (objLe.mk id id (rowLe_ints (by first | rfl | simp))) storeLe.nil)) (slotsLe.cons (And.intro rfl (AV.Le.refl _)) slotsLe.nil)))
theorem c_comp_within (p_r : Int) (p_from : Int) (p_many : Int) (r : Bool) (h : m_comp_within p_r p_from p_many = some r) : Contract pl 179 [(AV.int .i32 p_r), (AV.int .i32 p_from), (AV.int .i64 p_many)] [] (AV.bool r) [] := by
  refine contract_of .z Tryd.func179 rfl (by kernel_rfl) ?_
  ((conv=>whnf);repeat((first|refine Ta ?_|refine Tz mix ?_|refine Tc ?_|refine Tb ?_|refine Td rfl ?_|refine Tl ?_|refine sE rfl ?_|refine dG (by kernel_rfl) ?_|fail);(conv=>whnf)))
  refine br_b rfl h (fun c1 h => ?_) (fun c1 h => ?_)
  · have e := Option.some.inj h; subst e
    ((conv=>whnf);repeat((first|refine Ta ?_|refine Tz mix ?_|refine Tc ?_|refine Tb ?_|refine Td rfl ?_|refine Tl ?_|refine sE rfl ?_|refine dG (by kernel_rfl) ?_|fail);(conv=>whnf)))
    exact And.intro (AV.Le.refl _) rfl
  · have e := Option.some.inj h; subst e
    ((conv=>whnf);repeat((first|refine Ta ?_|refine Tz mix ?_|refine Tc ?_|refine Tb ?_|refine Td rfl ?_|refine Tl ?_|refine sE rfl ?_|refine dG (by kernel_rfl) ?_|fail);(conv=>whnf)))
    exact And.intro (AV.Le.refl _) rfl
theorem c_comp_open (p_r : Int) (r : Bool) (h : m_comp_open p_r = some r) : Contract pl 180 [(AV.int .i32 p_r)] [] (AV.bool r) [] := by
  refine contract_of .z Tryd.func180 rfl (by kernel_rfl) ?_
  ((conv=>whnf);repeat((first|refine Ta ?_|refine Tz mix ?_|refine Tc ?_|refine Tb ?_|refine Td rfl ?_|refine Tl ?_|refine sE rfl ?_|refine dG (by kernel_rfl) ?_|fail);(conv=>whnf)))
  refine bnd h (fun y1 hy1 h => ?_)
  refine Or.inl ⟨_, c_comp_within _ _ _ _ hy1, rfl, ?_⟩
  ((conv=>whnf);repeat((first|refine Ta ?_|refine Tz mix ?_|refine Tc ?_|refine Tb ?_|refine Td rfl ?_|refine Tl ?_|refine sE rfl ?_|refine dG (by kernel_rfl) ?_|fail);(conv=>whnf)))
  refine br_b rfl h (fun c2 h => ?_) (fun c2 h => ?_)
  · ((conv=>whnf);repeat((first|refine Ta ?_|refine Tz mix ?_|refine Tc ?_|refine Tb ?_|refine Td rfl ?_|refine Tl ?_|refine sE rfl ?_|refine dG (by kernel_rfl) ?_|fail);(conv=>whnf)))
    refine And.intro (by decide) ?_
    have e := Option.some.inj h; subst e
    ((conv=>whnf);repeat((first|refine Ta ?_|refine Tz mix ?_|refine Tc ?_|refine Tb ?_|refine Td rfl ?_|refine Tl ?_|refine sE rfl ?_|refine dG (by kernel_rfl) ?_|fail);(conv=>whnf)))
    exact And.intro (AV.Le.refl _) rfl
  · have e := Option.some.inj h; subst e
    ((conv=>whnf);repeat((first|refine Ta ?_|refine Tz mix ?_|refine Tc ?_|refine Tb ?_|refine Td rfl ?_|refine Tl ?_|refine sE rfl ?_|refine dG (by kernel_rfl) ?_|fail);(conv=>whnf)))
    exact And.intro (AV.Le.refl _) rfl
theorem c_comp_hangul (p_a : Int) (p_b : Int) (r : Int × Bool) (h : m_comp_hangul p_a p_b = some r) : Contract pl 177 [(AV.int .i32 p_a), (AV.int .i32 p_b)] [] (AV.tup [(AV.int .i32 r.1), (AV.bool r.2)]) [] := by
  refine contract_of (.t false .z (.t false (.t false (.t true .z (.t false .z (.t true .z .z))) .z) .z)) Tryd.func177 rfl (by kernel_rfl) ?_
  ((conv=>whnf);repeat((first|refine Ta ?_|refine Tz mix ?_|refine Tc ?_|refine Tb ?_|refine Td rfl ?_|refine Tl ?_|refine sE rfl ?_|refine dG (by kernel_rfl) ?_|fail);(conv=>whnf)))
  refine bnd h (fun x9 h9 h => ?_)
  refine cut_at (fun s1 : Bool => mkF 32 [(0, (.int .i32 p_a)), (1, (.int .i32 p_b)), (6, (.bool s1))] []) (fun s1 : Bool => m_comp_hangul_K2 p_a p_b s1 = some r) ?_ ?_
  · intro Kn9 hn9
    ((conv=>whnf);repeat((first|refine Ta ?_|refine Tz mix ?_|refine Tc ?_|refine Tb ?_|refine Td rfl ?_|refine Tl ?_|refine sE rfl ?_|refine dG (by kernel_rfl) ?_|fail);(conv=>whnf)))
    refine bnd h9 (fun y7 hy7 h9 => ?_)
    refine Or.inl ⟨_, c_comp_within _ _ _ _ hy7, rfl, ?_⟩
    ((conv=>whnf);repeat((first|refine Ta ?_|refine Tz mix ?_|refine Tc ?_|refine Tb ?_|refine Td rfl ?_|refine Tl ?_|refine sE rfl ?_|refine dG (by kernel_rfl) ?_|fail);(conv=>whnf)))
    refine br_b rfl h9 (fun c10 h9 => ?_) (fun c10 h9 => ?_)
    · ((conv=>whnf);repeat((first|refine Ta ?_|refine Tz mix ?_|refine Tc ?_|refine Tb ?_|refine Td rfl ?_|refine Tl ?_|refine sE rfl ?_|refine dG (by kernel_rfl) ?_|fail);(conv=>whnf)))
      refine bnd h9 (fun y8 hy8 h9 => ?_)
      refine Or.inl ⟨_, c_comp_within _ _ _ _ hy8, rfl, ?_⟩
      have e := Option.some.inj h9; subst e
      ((conv=>whnf);repeat((first|refine Ta ?_|refine Tz mix ?_|refine Tc ?_|refine Tb ?_|refine Td rfl ?_|refine Tl ?_|refine sE rfl ?_|refine dG (by kernel_rfl) ?_|fail);(conv=>whnf)))
      exact hn9 _ y8 h (weak_gen [] rfl rfl storeLe.nil (slotsLe.cons (And.intro rfl (AV.Le.refl _)) (slotsLe.cons (And.intro rfl (AV.Le.refl _)) (slotsLe.cons (And.intro rfl (AV.Le.refl _)) slotsLe.nil))))
    · have e := Option.some.inj h9; subst e
      ((conv=>whnf);repeat((first|refine Ta ?_|refine Tz mix ?_|refine Tc ?_|refine Tb ?_|refine Td rfl ?_|refine Tl ?_|refine sE rfl ?_|refine dG (by kernel_rfl) ?_|fail);(conv=>whnf)))
      exact hn9 _ false h (weak_gen [] rfl rfl storeLe.nil (slotsLe.cons (And.intro rfl (AV.Le.refl _)) (slotsLe.cons (And.intro rfl (AV.Le.refl _)) (slotsLe.cons (And.intro rfl (AV.Le.refl _)) slotsLe.nil))))
  · clear h h9
    intro s1 hc11
    ((conv=>whnf);repeat((first|refine Ta ?_|refine Tz mix ?_|refine Tc ?_|refine Tb ?_|refine Td rfl ?_|refine Tl ?_|refine sE rfl ?_|refine dG (by kernel_rfl) ?_|fail);(conv=>whnf)))
    refine br_b rfl hc11 (fun c12 hc11 => ?_) (fun c12 hc11 => ?_)
    · have e := Option.some.inj hc11; subst e
      ((conv=>whnf);repeat((first|refine Ta ?_|refine Tz mix ?_|refine Tc ?_|refine Tb ?_|refine Td rfl ?_|refine Tl ?_|refine sE rfl ?_|refine dG (by kernel_rfl) ?_|fail);(conv=>whnf)))
      exact And.intro (AV.Le.refl _) rfl
    · ((conv=>whnf);repeat((first|refine Ta ?_|refine Tz mix ?_|refine Tc ?_|refine Tb ?_|refine Td rfl ?_|refine Tl ?_|refine sE rfl ?_|refine dG (by kernel_rfl) ?_|fail);(conv=>whnf)))
      refine bnd hc11 (fun x13 h13 hc11 => ?_)
      refine cut_at (fun s3 : Bool => mkF 32 [(0, (.int .i32 p_a)), (1, (.int .i32 p_b)), (21, (.bool s3))] []) (fun s3 : Bool => m_comp_hangul_K4 p_a p_b s3 = some r) ?_ ?_
      · intro Kn13 hn13
        ((conv=>whnf);repeat((first|refine Ta ?_|refine Tz mix ?_|refine Tc ?_|refine Tb ?_|refine Td rfl ?_|refine Tl ?_|refine sE rfl ?_|refine dG (by kernel_rfl) ?_|fail);(conv=>whnf)))
        refine bnd h13 (fun y5 hy5 h13 => ?_)
        refine Or.inl ⟨_, c_comp_open _ _ hy5, rfl, ?_⟩
        ((conv=>whnf);repeat((first|refine Ta ?_|refine Tz mix ?_|refine Tc ?_|refine Tb ?_|refine Td rfl ?_|refine Tl ?_|refine sE rfl ?_|refine dG (by kernel_rfl) ?_|fail);(conv=>whnf)))
        refine br_b rfl h13 (fun c14 h13 => ?_) (fun c14 h13 => ?_)
        · ((conv=>whnf);repeat((first|refine Ta ?_|refine Tz mix ?_|refine Tc ?_|refine Tb ?_|refine Td rfl ?_|refine Tl ?_|refine sE rfl ?_|refine dG (by kernel_rfl) ?_|fail);(conv=>whnf)))
          refine bnd h13 (fun y6 hy6 h13 => ?_)
          refine Or.inl ⟨_, c_comp_within _ _ _ _ hy6, rfl, ?_⟩
          have e := Option.some.inj h13; subst e
          ((conv=>whnf);repeat((first|refine Ta ?_|refine Tz mix ?_|refine Tc ?_|refine Tb ?_|refine Td rfl ?_|refine Tl ?_|refine sE rfl ?_|refine dG (by kernel_rfl) ?_|fail);(conv=>whnf)))
          exact hn13 _ y6 hc11 (weak_gen [] rfl rfl storeLe.nil (slotsLe.cons (And.intro rfl (AV.Le.refl _)) (slotsLe.cons (And.intro rfl (AV.Le.refl _)) (slotsLe.cons (And.intro rfl (AV.Le.refl _)) slotsLe.nil))))
        · have e := Option.some.inj h13; subst e
          ((conv=>whnf);repeat((first|refine Ta ?_|refine Tz mix ?_|refine Tc ?_|refine Tb ?_|refine Td rfl ?_|refine Tl ?_|refine sE rfl ?_|refine dG (by kernel_rfl) ?_|fail);(conv=>whnf)))
          exact hn13 _ false hc11 (weak_gen [] rfl rfl storeLe.nil (slotsLe.cons (And.intro rfl (AV.Le.refl _)) (slotsLe.cons (And.intro rfl (AV.Le.refl _)) (slotsLe.cons (And.intro rfl (AV.Le.refl _)) slotsLe.nil))))
      · clear hc11 h13
        intro s3 hc15
        ((conv=>whnf);repeat((first|refine Ta ?_|refine Tz mix ?_|refine Tc ?_|refine Tb ?_|refine Td rfl ?_|refine Tl ?_|refine sE rfl ?_|refine dG (by kernel_rfl) ?_|fail);(conv=>whnf)))
        refine br_b rfl hc15 (fun c16 hc15 => ?_) (fun c16 hc15 => ?_)
        · have e := Option.some.inj hc15; subst e
          ((conv=>whnf);repeat((first|refine Ta ?_|refine Tz mix ?_|refine Tc ?_|refine Tb ?_|refine Td rfl ?_|refine Tl ?_|refine sE rfl ?_|refine dG (by kernel_rfl) ?_|fail);(conv=>whnf)))
          exact And.intro (AV.Le.refl _) rfl
        · have e := Option.some.inj hc15; subst e
          ((conv=>whnf);repeat((first|refine Ta ?_|refine Tz mix ?_|refine Tc ?_|refine Tb ?_|refine Td rfl ?_|refine Tl ?_|refine sE rfl ?_|refine dG (by kernel_rfl) ?_|fail);(conv=>whnf)))
          exact And.intro (AV.Le.refl _) rfl
theorem c_cmp_isNaN_rune (p_x : Int) (r : Bool) (h : m_cmp_isNaN_rune p_x = some r) : Contract pl 163 [(AV.int .i32 p_x)] [] (AV.bool r) [] := by
  refine contract_of .z Tryd.func163 rfl (by kernel_rfl) ?_
  have e := Option.some.inj h; subst e
  ((conv=>whnf);repeat((first|refine Ta ?_|refine Tz mix ?_|refine Tc ?_|refine Tb ?_|refine Td rfl ?_|refine Tl ?_|refine sE rfl ?_|refine dG (by kernel_rfl) ?_|fail);(conv=>whnf)))
  exact And.intro (AV.Le.refl _) rfl
theorem c_cmp_Less_rune (p_x : Int) (p_y : Int) (r : Bool) (h : m_cmp_Less_rune p_x p_y = some r) : Contract pl 139 [(AV.int .i32 p_x), (AV.int .i32 p_y)] [] (AV.bool r) [] := by
  refine contract_of .z Tryd.func139 rfl (by kernel_rfl) ?_
  ((conv=>whnf);repeat((first|refine Ta ?_|refine Tz mix ?_|refine Tc ?_|refine Tb ?_|refine Td rfl ?_|refine Tl ?_|refine sE rfl ?_|refine dG (by kernel_rfl) ?_|fail);(conv=>whnf)))
  refine bnd h (fun y1 hy1 h => ?_)
  refine Or.inl ⟨_, c_cmp_isNaN_rune _ _ hy1, rfl, ?_⟩
  ((conv=>whnf);repeat((first|refine Ta ?_|refine Tz mix ?_|refine Tc ?_|refine Tb ?_|refine Td rfl ?_|refine Tl ?_|refine sE rfl ?_|refine dG (by kernel_rfl) ?_|fail);(conv=>whnf)))
  refine br_b rfl h (fun c3 h => ?_) (fun c3 h => ?_)
  · ((conv=>whnf);repeat((first|refine Ta ?_|refine Tz mix ?_|refine Tc ?_|refine Tb ?_|refine Td rfl ?_|refine Tl ?_|refine sE rfl ?_|refine dG (by kernel_rfl) ?_|fail);(conv=>whnf)))
    refine bnd h (fun y2 hy2 h => ?_)
    refine Or.inl ⟨_, c_cmp_isNaN_rune _ _ hy2, rfl, ?_⟩
    ((conv=>whnf);repeat((first|refine Ta ?_|refine Tz mix ?_|refine Tc ?_|refine Tb ?_|refine Td rfl ?_|refine Tl ?_|refine sE rfl ?_|refine dG (by kernel_rfl) ?_|fail);(conv=>whnf)))
    refine br_b rfl h (fun c4 h => ?_) (fun c4 h => ?_)
    · have e := Option.some.inj h; subst e
      ((conv=>whnf);repeat((first|refine Ta ?_|refine Tz mix ?_|refine Tc ?_|refine Tb ?_|refine Td rfl ?_|refine Tl ?_|refine sE rfl ?_|refine dG (by kernel_rfl) ?_|fail);(conv=>whnf)))
      exact And.intro (AV.Le.refl _) rfl
    · have e := Option.some.inj h; subst e
      ((conv=>whnf);repeat((first|refine Ta ?_|refine Tz mix ?_|refine Tc ?_|refine Tb ?_|refine Td rfl ?_|refine Tl ?_|refine sE rfl ?_|refine dG (by kernel_rfl) ?_|fail);(conv=>whnf)))
      exact And.intro (AV.Le.refl _) rfl
  · have e := Option.some.inj h; subst e
    ((conv=>whnf);repeat((first|refine Ta ?_|refine Tz mix ?_|refine Tc ?_|refine Tb ?_|refine Td rfl ?_|refine Tl ?_|refine sE rfl ?_|refine dG (by kernel_rfl) ?_|fail);(conv=>whnf)))
    exact And.intro (AV.Le.refl _) rfl
theorem c_slices_isNaN_rune (p_x : Int) (r : Bool) (h : m_slices_isNaN_rune p_x = some r) : Contract pl 140 [(AV.int .i32 p_x)] [] (AV.bool r) [] := by
  refine contract_of .z Tryd.func140 rfl (by kernel_rfl) ?_
  have e := Option.some.inj h; subst e
  ((conv=>whnf);repeat((first|refine Ta ?_|refine Tz mix ?_|refine Tc ?_|refine Tb ?_|refine Td rfl ?_|refine Tl ?_|refine sE rfl ?_|refine dG (by kernel_rfl) ?_|fail);(conv=>whnf)))
  exact And.intro (AV.Le.refl _) rfl
theorem c_slices_BinarySearch_rune_rune (p_x : (List Int)) (p_target : Int) (r : Int × Bool) (h : m_slices_BinarySearch_rune_rune p_x p_target = some r) : Contract pl 91 [(e_L_i32 p_x), (AV.int .i32 p_target)] [] (AV.tup [(AV.int .i64 r.1), (AV.bool r.2)]) [] := by
  refine contract_of (.t false .z (.t false .z (.t false .z (.t true .z .z)))) Tryd.func91 rfl (by kernel_rfl) ?_
  ((conv=>whnf);repeat((first|refine Ta ?_|refine Tz mix ?_|refine Tc ?_|refine Tb ?_|refine Td rfl ?_|refine Tl ?_|refine sE rfl ?_|refine dG (by kernel_rfl) ?_|fail);(conv=>whnf)))
  refine bnd h (fun x11 h11 h => ?_)
  refine cut_at (fun s1 : Int => mkF 54 [(0, (e_L_i32 p_x)), (1, (.int .i32 p_target)), (6, (.int .i64 ((p_x.length : Nat) : Int))), (7, (.int .i64 s1))] []) (fun s1 : Int => m_slices_BinarySearch_rune_rune_K2 p_x p_target s1 = some r) ?_ ?_
  · intro Kn11 hn11
    ((conv=>whnf);repeat((first|refine Ta ?_|refine Tz mix ?_|refine Tc ?_|refine Tb ?_|refine Td rfl ?_|refine Tl ?_|refine sE rfl ?_|refine dG (by kernel_rfl) ?_|fail);(conv=>whnf)))
    refine loop_iter (fun s6 : Int × Int => mkF 54 [(0, (e_L_i32 p_x)), (1, (.int .i32 p_target)), (6, (.int .i64 ((p_x.length : Nat) : Int))), (7, (.int .i64 s6.1)), (8, (.int .i64 s6.2))] []) h11 (weak_gen [] rfl rfl storeLe.nil (slotsLe.cons (And.intro rfl (AV.Le.refl _)) (slotsLe.cons (And.intro rfl (AV.Le.refl _)) (slotsLe.cons (And.intro rfl (AV.Le.refl _)) (slotsLe.cons (And.intro rfl (AV.Le.refl _)) (slotsLe.cons (And.intro rfl (AV.Le.refl _)) slotsLe.nil)))))) ?_
    intro k8 s6 st8 Kn8 hn8 h8_ hs8
    ((conv=>whnf);repeat((first|refine Ta ?_|refine Tz mix ?_|refine Tc ?_|refine Tb ?_|refine Td rfl ?_|refine Tl ?_|refine sE rfl ?_|refine dG (by kernel_rfl) ?_|fail);(conv=>whnf)))
    refine br_b rfl h8_ (fun c12 h8_ => ?_) (fun c12 h8_ => ?_)
    · ((conv=>whnf);repeat((first|refine Ta ?_|refine Tz mix ?_|refine Tc ?_|refine Tb ?_|refine Td rfl ?_|refine Tl ?_|refine sE rfl ?_|refine dG (by kernel_rfl) ?_|fail);(conv=>whnf)))
      refine And.intro (by decide) ?_
      ((conv=>whnf);repeat((first|refine Ta ?_|refine Tz mix ?_|refine Tc ?_|refine Tb ?_|refine Td rfl ?_|refine Tl ?_|refine sE rfl ?_|refine dG (by kernel_rfl) ?_|fail);(conv=>whnf)))
      refine grd2 rfl rfl h8_ (fun h8_ => ?_)
      ((conv=>whnf);repeat((first|refine Ta ?_|refine Tz mix ?_|refine Tc ?_|refine Tb ?_|refine Td rfl ?_|refine Tl ?_|refine sE rfl ?_|refine dG (by kernel_rfl) ?_|fail);(conv=>whnf)))
      refine bnd h8_ (fun y9 hy9 h8_ => ?_)
      refine Or.inl ⟨_, c_cmp_Less_rune _ _ _ hy9, rfl, ?_⟩
      ((conv=>whnf);repeat((first|refine Ta ?_|refine Tz mix ?_|refine Tc ?_|refine Tb ?_|refine Td rfl ?_|refine Tl ?_|refine sE rfl ?_|refine dG (by kernel_rfl) ?_|fail);(conv=>whnf)))
      refine br_b rfl h8_ (fun c13 h8_ => ?_) (fun c13 h8_ => ?_)
      · have e := Option.some.inj h8_; subst e
        ((conv=>whnf);repeat((first|refine Ta ?_|refine Tz mix ?_|refine Tc ?_|refine Tb ?_|refine Td rfl ?_|refine Tl ?_|refine sE rfl ?_|refine dG (by kernel_rfl) ?_|fail);(conv=>whnf)))
        exact hn8 _ ((IntKind.wrap .i64 ((IntKind.wrap .i64 (Int.fdiv (IntKind.wrap .u64 (IntKind.wrap .i64 (s6.1 + s6.2))) 2)) + (1 : Int))), s6.2) hs8 (weak_gen [] rfl rfl storeLe.nil (slotsLe.cons (And.intro rfl (AV.Le.refl _)) (slotsLe.cons (And.intro rfl (AV.Le.refl _)) (slotsLe.cons (And.intro rfl (AV.Le.refl _)) (slotsLe.cons (And.intro rfl (AV.Le.refl _)) (slotsLe.cons (And.intro rfl (AV.Le.refl _)) slotsLe.nil))))))
      · have e := Option.some.inj h8_; subst e
        ((conv=>whnf);repeat((first|refine Ta ?_|refine Tz mix ?_|refine Tc ?_|refine Tb ?_|refine Td rfl ?_|refine Tl ?_|refine sE rfl ?_|refine dG (by kernel_rfl) ?_|fail);(conv=>whnf)))
        exact hn8 _ (s6.1, (IntKind.wrap .i64 (Int.fdiv (IntKind.wrap .u64 (IntKind.wrap .i64 (s6.1 + s6.2))) 2))) hs8 (weak_gen [] rfl rfl storeLe.nil (slotsLe.cons (And.intro rfl (AV.Le.refl _)) (slotsLe.cons (And.intro rfl (AV.Le.refl _)) (slotsLe.cons (And.intro rfl (AV.Le.refl _)) (slotsLe.cons (And.intro rfl (AV.Le.refl _)) (slotsLe.cons (And.intro rfl (AV.Le.refl _)) slotsLe.nil))))))
    · have e := Option.some.inj h8_; subst e
      have e := done_out hs8; subst e
      ((conv=>whnf);repeat((first|refine Ta ?_|refine Tz mix ?_|refine Tc ?_|refine Tb ?_|refine Td rfl ?_|refine Tl ?_|refine sE rfl ?_|refine dG (by kernel_rfl) ?_|fail);(conv=>whnf)))
      exact hn11 _ s6.1 h (weak_gen [] rfl rfl storeLe.nil (slotsLe.cons (And.intro rfl (AV.Le.refl _)) (slotsLe.cons (And.intro rfl (AV.Le.refl _)) (slotsLe.cons (And.intro rfl (AV.Le.refl _)) (slotsLe.cons (And.intro rfl (AV.Le.refl _)) slotsLe.nil)))))
  · clear h h11
    intro s1 hc14
    ((conv=>whnf);repeat((first|refine Ta ?_|refine Tz mix ?_|refine Tc ?_|refine Tb ?_|refine Td rfl ?_|refine Tl ?_|refine sE rfl ?_|refine dG (by kernel_rfl) ?_|fail);(conv=>whnf)))
    refine br_b rfl hc14 (fun c15 hc14 => ?_) (fun c15 hc14 => ?_)
    · ((conv=>whnf);repeat((first|refine Ta ?_|refine Tz mix ?_|refine Tc ?_|refine Tb ?_|refine Td rfl ?_|refine Tl ?_|refine sE rfl ?_|refine dG (by kernel_rfl) ?_|fail);(conv=>whnf)))
      refine grd2 rfl rfl hc14 (fun hc14 => ?_)
      ((conv=>whnf);repeat((first|refine Ta ?_|refine Tz mix ?_|refine Tc ?_|refine Tb ?_|refine Td rfl ?_|refine Tl ?_|refine sE rfl ?_|refine dG (by kernel_rfl) ?_|fail);(conv=>whnf)))
      refine br_b rfl hc14 (fun c16 hc14 => ?_) (fun c16 hc14 => ?_)
      · have e := Option.some.inj hc14; subst e
        ((conv=>whnf);repeat((first|refine Ta ?_|refine Tz mix ?_|refine Tc ?_|refine Tb ?_|refine Td rfl ?_|refine Tl ?_|refine sE rfl ?_|refine dG (by kernel_rfl) ?_|fail);(conv=>whnf)))
        exact And.intro (AV.Le.refl _) rfl
      · ((conv=>whnf);repeat((first|refine Ta ?_|refine Tz mix ?_|refine Tc ?_|refine Tb ?_|refine Td rfl ?_|refine Tl ?_|refine sE rfl ?_|refine dG (by kernel_rfl) ?_|fail);(conv=>whnf)))
        refine grd2 rfl rfl hc14 (fun hc14 => ?_)
        ((conv=>whnf);repeat((first|refine Ta ?_|refine Tz mix ?_|refine Tc ?_|refine Tb ?_|refine Td rfl ?_|refine Tl ?_|refine sE rfl ?_|refine dG (by kernel_rfl) ?_|fail);(conv=>whnf)))
        refine bnd hc14 (fun y3 hy3 hc14 => ?_)
        refine Or.inl ⟨_, c_slices_isNaN_rune _ _ hy3, rfl, ?_⟩
        ((conv=>whnf);repeat((first|refine Ta ?_|refine Tz mix ?_|refine Tc ?_|refine Tb ?_|refine Td rfl ?_|refine Tl ?_|refine sE rfl ?_|refine dG (by kernel_rfl) ?_|fail);(conv=>whnf)))
        refine br_b rfl hc14 (fun c17 hc14 => ?_) (fun c17 hc14 => ?_)
        · ((conv=>whnf);repeat((first|refine Ta ?_|refine Tz mix ?_|refine Tc ?_|refine Tb ?_|refine Td rfl ?_|refine Tl ?_|refine sE rfl ?_|refine dG (by kernel_rfl) ?_|fail);(conv=>whnf)))
          refine bnd hc14 (fun y4 hy4 hc14 => ?_)
          refine Or.inl ⟨_, c_slices_isNaN_rune _ _ hy4, rfl, ?_⟩
          have e := Option.some.inj hc14; subst e
          ((conv=>whnf);repeat((first|refine Ta ?_|refine Tz mix ?_|refine Tc ?_|refine Tb ?_|refine Td rfl ?_|refine Tl ?_|refine sE rfl ?_|refine dG (by kernel_rfl) ?_|fail);(conv=>whnf)))
          exact And.intro (AV.Le.refl _) rfl
        · have e := Option.some.inj hc14; subst e
          ((conv=>whnf);repeat((first|refine Ta ?_|refine Tz mix ?_|refine Tc ?_|refine Tb ?_|refine Td rfl ?_|refine Tl ?_|refine sE rfl ?_|refine dG (by kernel_rfl) ?_|fail);(conv=>whnf)))
          exact And.intro (AV.Le.refl _) rfl
    · have e := Option.some.inj hc14; subst e
      ((conv=>whnf);repeat((first|refine Ta ?_|refine Tz mix ?_|refine Tc ?_|refine Tb ?_|refine Td rfl ?_|refine Tl ?_|refine sE rfl ?_|refine dG (by kernel_rfl) ?_|fail);(conv=>whnf)))
      exact And.intro (AV.Le.refl _) rfl
theorem c_decomp_Composes (p_t : T_api_Norm) (p_row : Int) (r : Bool) (h : m_decomp_Composes p_t p_row = some r) : Contract pl 37 [(e_api_Norm p_t), (AV.int .i64 p_row)] [] (AV.bool r) [] := by
  refine contract_of (.t false .z (.t false (.t true .z .z) .z)) Tryd.func37 rfl (by kernel_rfl) ?_
  ((conv=>whnf);repeat((first|refine Ta ?_|refine Tz mix ?_|refine Tc ?_|refine Tb ?_|refine Td rfl ?_|refine Tl ?_|refine sE rfl ?_|refine dG (by kernel_rfl) ?_|fail);(conv=>whnf)))
  refine bnd h (fun x6 h6 h => ?_)
  refine cut_at (fun s1 : Bool => mkF 58 [(1, (.int .i64 p_row)), (2, (.mp 0 0 0)), (26, (.bool s1))] [some ⟨3, 40, (.vals [(e_api_Norm p_t)]), false, false⟩]) (fun s1 : Bool => m_decomp_Composes_K2 p_t p_row s1 = some r) ?_ ?_
  · intro Kn6 hn6
    ((conv=>whnf);repeat((first|refine Ta ?_|refine Tz mix ?_|refine Tc ?_|refine Tb ?_|refine Td rfl ?_|refine Tl ?_|refine sE rfl ?_|refine dG (by kernel_rfl) ?_|fail);(conv=>whnf)))
    refine br_b rfl h6 (fun c7 h6 => ?_) (fun c7 h6 => ?_)
    · have e := Option.some.inj h6; subst e
      ((conv=>whnf);repeat((first|refine Ta ?_|refine Tz mix ?_|refine Tc ?_|refine Tb ?_|refine Td rfl ?_|refine Tl ?_|refine sE rfl ?_|refine dG (by kernel_rfl) ?_|fail);(conv=>whnf)))
      exact hn6 _ true h (weak_gen [0] rfl rfl (storeLe.cons rfl (objLe.mk id id (rowLe_vals (valsLe.cons (cellsLe_refl rfl) valsLe.nil))) storeLe.nil) (slotsLe.cons (And.intro rfl (AV.Le.refl _)) (slotsLe.cons (And.intro rfl (AV.Le.refl _)) (slotsLe.cons (And.intro rfl (AV.Le.refl _)) slotsLe.nil))))
    · ((conv=>whnf);repeat((first|refine Ta ?_|refine Tz mix ?_|refine Tc ?_|refine Tb ?_|refine Td rfl ?_|refine Tl ?_|refine sE rfl ?_|refine dG (by kernel_rfl) ?_|fail);(conv=>whnf)))
      refine br_b rfl h6 (fun c8 h6 => ?_) (fun c8 h6 => ?_)
      · have e := Option.some.inj h6; subst e
        ((conv=>whnf);repeat((first|refine Ta ?_|refine Tz mix ?_|refine Tc ?_|refine Tb ?_|refine Td rfl ?_|refine Tl ?_|refine sE rfl ?_|refine dG (by kernel_rfl) ?_|fail);(conv=>whnf)))
        exact hn6 _ true h (weak_gen [0] rfl rfl (storeLe.cons rfl (objLe.mk id id (rowLe_vals (valsLe.cons (cellsLe_refl rfl) valsLe.nil))) storeLe.nil) (slotsLe.cons (And.intro rfl (AV.Le.refl _)) (slotsLe.cons (And.intro rfl (AV.Le.refl _)) (slotsLe.cons (And.intro rfl (AV.Le.refl _)) slotsLe.nil))))
      · ((conv=>whnf);repeat((first|refine Ta ?_|refine Tz mix ?_|refine Tc ?_|refine Tb ?_|refine Td rfl ?_|refine Tl ?_|refine sE rfl ?_|refine dG (by kernel_rfl) ?_|fail);(conv=>whnf)))
        refine grd2 rfl rfl h6 (fun h6 => ?_)
        have e := Option.some.inj h6; subst e
        ((conv=>whnf);repeat((first|refine Ta ?_|refine Tz mix ?_|refine Tc ?_|refine Tb ?_|refine Td rfl ?_|refine Tl ?_|refine sE rfl ?_|refine dG (by kernel_rfl) ?_|fail);(conv=>whnf)))
        exact hn6 _ ((((p_t.f_Rows.getD (p_row.toNat) d_api_Row).f_To.length : Nat) : Int) != (2 : Int)) h (weak_gen [0] rfl rfl (storeLe.cons rfl (objLe.mk id id (rowLe_vals (valsLe.cons (cellsLe_refl rfl) valsLe.nil))) storeLe.nil) (slotsLe.cons (And.intro rfl (AV.Le.refl _)) (slotsLe.cons (And.intro rfl (AV.Le.refl _)) (slotsLe.cons (And.intro rfl (AV.Le.refl _)) slotsLe.nil))))
  · clear h h6
    intro s1 hc9
    ((conv=>whnf);repeat((first|refine Ta ?_|refine Tz mix ?_|refine Tc ?_|refine Tb ?_|refine Td rfl ?_|refine Tl ?_|refine sE rfl ?_|refine dG (by kernel_rfl) ?_|fail);(conv=>whnf)))
    refine br_b rfl hc9 (fun c10 hc9 => ?_) (fun c10 hc9 => ?_)
    · have e := Option.some.inj hc9; subst e
      ((conv=>whnf);repeat((first|refine Ta ?_|refine Tz mix ?_|refine Tc ?_|refine Tb ?_|refine Td rfl ?_|refine Tl ?_|refine sE rfl ?_|refine dG (by kernel_rfl) ?_|fail);(conv=>whnf)))
      exact And.intro (AV.Le.refl _) rfl
    · ((conv=>whnf);repeat((first|refine Ta ?_|refine Tz mix ?_|refine Tc ?_|refine Tb ?_|refine Td rfl ?_|refine Tl ?_|refine sE rfl ?_|refine dG (by kernel_rfl) ?_|fail);(conv=>whnf)))
      refine grd2 rfl rfl hc9 (fun hc9 => ?_)
      ((conv=>whnf);repeat((first|refine Ta ?_|refine Tz mix ?_|refine Tc ?_|refine Tb ?_|refine Td rfl ?_|refine Tl ?_|refine sE rfl ?_|refine dG (by kernel_rfl) ?_|fail);(conv=>whnf)))
      refine bnd hc9 (fun y3 hy3 hc9 => ?_)
      refine Or.inl ⟨_, c_slices_BinarySearch_rune_rune _ _ _ hy3, rfl, ?_⟩
      ((conv=>whnf);repeat((first|refine Ta ?_|refine Tz mix ?_|refine Tc ?_|refine Tb ?_|refine Td rfl ?_|refine Tl ?_|refine sE rfl ?_|refine dG (by kernel_rfl) ?_|fail);(conv=>whnf)))
      refine br_b rfl hc9 (fun c11 hc9 => ?_) (fun c11 hc9 => ?_)
      · ((conv=>whnf);repeat((first|refine Ta ?_|refine Tz mix ?_|refine Tc ?_|refine Tb ?_|refine Td rfl ?_|refine Tl ?_|refine sE rfl ?_|refine dG (by kernel_rfl) ?_|fail);(conv=>whnf)))
        refine bnd hc9 (fun y4 hy4 hc9 => ?_)
        refine Or.inl ⟨_, c_decomp_Class _ _ _ hy4, rfl, ?_⟩
        ((conv=>whnf);repeat((first|refine Ta ?_|refine Tz mix ?_|refine Tc ?_|refine Tb ?_|refine Td rfl ?_|refine Tl ?_|refine sE rfl ?_|refine dG (by kernel_rfl) ?_|fail);(conv=>whnf)))
        refine br_b rfl hc9 (fun c12 hc9 => ?_) (fun c12 hc9 => ?_)
        · ((conv=>whnf);repeat((first|refine Ta ?_|refine Tz mix ?_|refine Tc ?_|refine Tb ?_|refine Td rfl ?_|refine Tl ?_|refine sE rfl ?_|refine dG (by kernel_rfl) ?_|fail);(conv=>whnf)))
          refine grd2 rfl rfl hc9 (fun hc9 => ?_)
          ((conv=>whnf);repeat((first|refine Ta ?_|refine Tz mix ?_|refine Tc ?_|refine Tb ?_|refine Td rfl ?_|refine Tl ?_|refine sE rfl ?_|refine dG (by kernel_rfl) ?_|fail);(conv=>whnf)))
          refine bnd hc9 (fun y5 hy5 hc9 => ?_)
          refine Or.inl ⟨_, c_decomp_Class _ _ _ hy5, rfl, ?_⟩
          have e := Option.some.inj hc9; subst e
          ((conv=>whnf);repeat((first|refine Ta ?_|refine Tz mix ?_|refine Tc ?_|refine Tb ?_|refine Td rfl ?_|refine Tl ?_|refine sE rfl ?_|refine dG (by kernel_rfl) ?_|fail);(conv=>whnf)))
          exact And.intro (AV.Le.refl _) rfl
        · have e := Option.some.inj hc9; subst e
          ((conv=>whnf);repeat((first|refine Ta ?_|refine Tz mix ?_|refine Tc ?_|refine Tb ?_|refine Td rfl ?_|refine Tl ?_|refine sE rfl ?_|refine dG (by kernel_rfl) ?_|fail);(conv=>whnf)))
          exact And.intro (AV.Le.refl _) rfl
      · have e := Option.some.inj hc9; subst e
        ((conv=>whnf);repeat((first|refine Ta ?_|refine Tz mix ?_|refine Tc ?_|refine Tb ?_|refine Td rfl ?_|refine Tl ?_|refine sE rfl ?_|refine dG (by kernel_rfl) ?_|fail);(conv=>whnf)))
        exact And.intro (AV.Le.refl _) rfl
theorem c_comp_Pair (p_t : T_api_Norm) (p_a : Int) (p_b : Int) (r : Int × Bool) (h : m_comp_Pair p_t p_a p_b = some r) : Contract pl 173 [(e_api_Norm p_t), (AV.int .i32 p_a), (AV.int .i32 p_b)] [] (AV.tup [(AV.int .i32 r.1), (AV.bool r.2)]) [] := by
  refine contract_of (.t false .z (.t false .z (.t true (.t false .z (.t false (.t false (.t false .z (.t false .z (.t false (.t false (.t false .z (.t true .z .z)) .z) .z))) .z) .z)) .z))) Tryd.func173 rfl (by kernel_rfl) ?_
  ((conv=>whnf);repeat((first|refine Ta ?_|refine Tz mix ?_|refine Tc ?_|refine Tb ?_|refine Td rfl ?_|refine Tl ?_|refine sE rfl ?_|refine dG (by kernel_rfl) ?_|fail);(conv=>whnf)))
  refine bnd h (fun y1 hy1 h => ?_)
  refine Or.inl ⟨_, c_comp_hangul _ _ _ hy1, rfl, ?_⟩
  ((conv=>whnf);repeat((first|refine Ta ?_|refine Tz mix ?_|refine Tc ?_|refine Tb ?_|refine Td rfl ?_|refine Tl ?_|refine sE rfl ?_|refine dG (by kernel_rfl) ?_|fail);(conv=>whnf)))
  refine br_b rfl h (fun c14 h => ?_) (fun c14 h => ?_)
  · have e := Option.some.inj h; subst e
    ((conv=>whnf);repeat((first|refine Ta ?_|refine Tz mix ?_|refine Tc ?_|refine Tb ?_|refine Td rfl ?_|refine Tl ?_|refine sE rfl ?_|refine dG (by kernel_rfl) ?_|fail);(conv=>whnf)))
    exact And.intro (AV.Le.refl _) rfl
  · ((conv=>whnf);repeat((first|refine Ta ?_|refine Tz mix ?_|refine Tc ?_|refine Tb ?_|refine Td rfl ?_|refine Tl ?_|refine sE rfl ?_|refine dG (by kernel_rfl) ?_|fail);(conv=>whnf)))
    refine bnd h (fun x15 h15 h => ?_)
    refine cut_at (fun s2 : Unit => mkF 56 [] []) (fun s2 : Unit => some ((0 : Int), false) = some r) ?_ ?_
    · intro Kn15 hn15
      ((conv=>whnf);repeat((first|refine Ta ?_|refine Tz mix ?_|refine Tc ?_|refine Tb ?_|refine Td rfl ?_|refine Tl ?_|refine sE rfl ?_|refine dG (by kernel_rfl) ?_|fail);(conv=>whnf)))
      refine loop_iter (fun s5 : Int => mkF 56 [(1, (.int .i32 p_a)), (2, (.int .i32 p_b)), (3, (.mp 0 0 0)), (21, (e_L_api_Row p_t.f_Rows)), (22, (.int .i64 ((p_t.f_Rows.length : Nat) : Int))), (23, (.int .i64 s5))] [some ⟨3, 40, (.vals [(e_api_Norm p_t)]), false, false⟩]) h15 (weak_gen [0] rfl rfl (storeLe.cons rfl (objLe.mk id id (rowLe_vals (valsLe.cons (cellsLe_refl rfl) valsLe.nil))) storeLe.nil) (slotsLe.cons (And.intro rfl (AV.Le.refl _)) (slotsLe.cons (And.intro rfl (AV.Le.refl _)) (slotsLe.cons (And.intro rfl (AV.Le.refl _)) (slotsLe.cons (And.intro rfl (AV.Le.refl _)) (slotsLe.cons (And.intro rfl (AV.Le.refl _)) (slotsLe.cons (And.intro rfl (AV.Le.refl _)) slotsLe.nil))))))) ?_
      intro k7 s5 st7 Kn7 hn7 h7_ hs7
      ((conv=>whnf);repeat((first|refine Ta ?_|refine Tz mix ?_|refine Tc ?_|refine Tb ?_|refine Td rfl ?_|refine Tl ?_|refine sE rfl ?_|refine dG (by kernel_rfl) ?_|fail);(conv=>whnf)))
      refine br_b rfl h7_ (fun c16 h7_ => ?_) (fun c16 h7_ => ?_)
      · ((conv=>whnf);repeat((first|refine Ta ?_|refine Tz mix ?_|refine Tc ?_|refine Tb ?_|refine Td rfl ?_|refine Tl ?_|refine sE rfl ?_|refine dG (by kernel_rfl) ?_|fail);(conv=>whnf)))
        refine grd2 rfl rfl h7_ (fun h7_ => ?_)
        ((conv=>whnf);repeat((first|refine Ta ?_|refine Tz mix ?_|refine Tc ?_|refine Tb ?_|refine Td rfl ?_|refine Tl ?_|refine sE rfl ?_|refine dG (by kernel_rfl) ?_|fail);(conv=>whnf)))
        refine bnd h7_ (fun x17 h17 h7_ => ?_)
        refine cut_at (fun s8 : Bool => mkF 56 [(1, (.int .i32 p_a)), (2, (.int .i32 p_b)), (3, (.mp 0 0 0)), (11, (.mp 1 0 0)), (21, (e_L_api_Row p_t.f_Rows)), (22, (.int .i64 ((p_t.f_Rows.length : Nat) : Int))), (23, (.int .i64 s5)), (52, (.bool s8))] [some ⟨3, 40, (.vals [(e_api_Norm p_t)]), false, false⟩, some ⟨2, 103, (.vals [(e_api_Row (p_t.f_Rows.getD (s5.toNat) d_api_Row))]), false, false⟩]) (fun s8 : Bool => m_comp_Pair_K9 p_t s5 s8 = some st7) ?_ ?_
        · intro Kn17 hn17
          ((conv=>whnf);repeat((first|refine Ta ?_|refine Tz mix ?_|refine Tc ?_|refine Tb ?_|refine Td rfl ?_|refine Tl ?_|refine sE rfl ?_|refine dG (by kernel_rfl) ?_|fail);(conv=>whnf)))
          refine br_b rfl h17 (fun c18 h17 => ?_) (fun c18 h17 => ?_)
          · ((conv=>whnf);repeat((first|refine Ta ?_|refine Tz mix ?_|refine Tc ?_|refine Tb ?_|refine Td rfl ?_|refine Tl ?_|refine sE rfl ?_|refine dG (by kernel_rfl) ?_|fail);(conv=>whnf)))
            refine grd2 rfl rfl h17 (fun h17 => ?_)
            ((conv=>whnf);repeat((first|refine Ta ?_|refine Tz mix ?_|refine Tc ?_|refine Tb ?_|refine Td rfl ?_|refine Tl ?_|refine sE rfl ?_|refine dG (by kernel_rfl) ?_|fail);(conv=>whnf)))
            refine br_b rfl h17 (fun c19 h17 => ?_) (fun c19 h17 => ?_)
            · ((conv=>whnf);repeat((first|refine Ta ?_|refine Tz mix ?_|refine Tc ?_|refine Tb ?_|refine Td rfl ?_|refine Tl ?_|refine sE rfl ?_|refine dG (by kernel_rfl) ?_|fail);(conv=>whnf)))
              refine grd2 rfl rfl h17 (fun h17 => ?_)
              ((conv=>whnf);repeat((first|refine Ta ?_|refine Tz mix ?_|refine Tc ?_|refine Tb ?_|refine Td rfl ?_|refine Tl ?_|refine sE rfl ?_|refine dG (by kernel_rfl) ?_|fail);(conv=>whnf)))
              refine br_b rfl h17 (fun c20 h17 => ?_) (fun c20 h17 => ?_)
              · ((conv=>whnf);repeat((first|refine Ta ?_|refine Tz mix ?_|refine Tc ?_|refine Tb ?_|refine Td rfl ?_|refine Tl ?_|refine sE rfl ?_|refine dG (by kernel_rfl) ?_|fail);(conv=>whnf)))
                refine bnd h17 (fun y10 hy10 h17 => ?_)
                refine Or.inl ⟨_, c_decomp_Composes _ _ _ hy10, rfl, ?_⟩
                have e := Option.some.inj h17; subst e
                ((conv=>whnf);repeat((first|refine Ta ?_|refine Tz mix ?_|refine Tc ?_|refine Tb ?_|refine Td rfl ?_|refine Tl ?_|refine sE rfl ?_|refine dG (by kernel_rfl) ?_|fail);(conv=>whnf)))
                exact hn17 _ y10 h7_ (weak_gen [0, 1] rfl rfl (storeLe.cons rfl (objLe.mk id id (rowLe_vals (valsLe.cons (cellsLe_refl rfl) valsLe.nil))) (storeLe.cons rfl (objLe.mk id id (rowLe_vals (valsLe.cons (cellsLe_refl rfl) valsLe.nil))) storeLe.nil)) (slotsLe.cons (And.intro rfl (AV.Le.refl _)) (slotsLe.cons (And.intro rfl (AV.Le.refl _)) (slotsLe.cons (And.intro rfl (AV.Le.refl _)) (slotsLe.cons (And.intro rfl (AV.Le.refl _)) (slotsLe.cons (And.intro rfl (AV.Le.refl _)) (slotsLe.cons (And.intro rfl (AV.Le.refl _)) (slotsLe.cons (And.intro rfl (AV.Le.refl _)) (slotsLe.cons (And.intro rfl (AV.Le.refl _)) slotsLe.nil)))))))))
              · have e := Option.some.inj h17; subst e
                ((conv=>whnf);repeat((first|refine Ta ?_|refine Tz mix ?_|refine Tc ?_|refine Tb ?_|refine Td rfl ?_|refine Tl ?_|refine sE rfl ?_|refine dG (by kernel_rfl) ?_|fail);(conv=>whnf)))
                exact hn17 _ false h7_ (weak_gen [0, 1] rfl rfl (storeLe.cons rfl (objLe.mk id id (rowLe_vals (valsLe.cons (cellsLe_refl rfl) valsLe.nil))) (storeLe.cons rfl (objLe.mk id id (rowLe_vals (valsLe.cons (cellsLe_refl rfl) valsLe.nil))) storeLe.nil)) (slotsLe.cons (And.intro rfl (AV.Le.refl _)) (slotsLe.cons (And.intro rfl (AV.Le.refl _)) (slotsLe.cons (And.intro rfl (AV.Le.refl _)) (slotsLe.cons (And.intro rfl (AV.Le.refl _)) (slotsLe.cons (And.intro rfl (AV.Le.refl _)) (slotsLe.cons (And.intro rfl (AV.Le.refl _)) (slotsLe.cons (And.intro rfl (AV.Le.refl _)) (slotsLe.cons (And.intro rfl (AV.Le.refl _)) slotsLe.nil)))))))))
            · have e := Option.some.inj h17; subst e
              ((conv=>whnf);repeat((first|refine Ta ?_|refine Tz mix ?_|refine Tc ?_|refine Tb ?_|refine Td rfl ?_|refine Tl ?_|refine sE rfl ?_|refine dG (by kernel_rfl) ?_|fail);(conv=>whnf)))
              exact hn17 _ false h7_ (weak_gen [0, 1] rfl rfl (storeLe.cons rfl (objLe.mk id id (rowLe_vals (valsLe.cons (cellsLe_refl rfl) valsLe.nil))) (storeLe.cons rfl (objLe.mk id id (rowLe_vals (valsLe.cons (cellsLe_refl rfl) valsLe.nil))) storeLe.nil)) (slotsLe.cons (And.intro rfl (AV.Le.refl _)) (slotsLe.cons (And.intro rfl (AV.Le.refl _)) (slotsLe.cons (And.intro rfl (AV.Le.refl _)) (slotsLe.cons (And.intro rfl (AV.Le.refl _)) (slotsLe.cons (And.intro rfl (AV.Le.refl _)) (slotsLe.cons (And.intro rfl (AV.Le.refl _)) (slotsLe.cons (And.intro rfl (AV.Le.refl _)) (slotsLe.cons (And.intro rfl (AV.Le.refl _)) slotsLe.nil)))))))))
          · have e := Option.some.inj h17; subst e
            ((conv=>whnf);repeat((first|refine Ta ?_|refine Tz mix ?_|refine Tc ?_|refine Tb ?_|refine Td rfl ?_|refine Tl ?_|refine sE rfl ?_|refine dG (by kernel_rfl) ?_|fail);(conv=>whnf)))
            exact hn17 _ false h7_ (weak_gen [0, 1] rfl rfl (storeLe.cons rfl (objLe.mk id id (rowLe_vals (valsLe.cons (cellsLe_refl rfl) valsLe.nil))) (storeLe.cons rfl (objLe.mk id id (rowLe_vals (valsLe.cons (cellsLe_refl rfl) valsLe.nil))) storeLe.nil)) (slotsLe.cons (And.intro rfl (AV.Le.refl _)) (slotsLe.cons (And.intro rfl (AV.Le.refl _)) (slotsLe.cons (And.intro rfl (AV.Le.refl _)) (slotsLe.cons (And.intro rfl (AV.Le.refl _)) (slotsLe.cons (And.intro rfl (AV.Le.refl _)) (slotsLe.cons (And.intro rfl (AV.Le.refl _)) (slotsLe.cons (And.intro rfl (AV.Le.refl _)) (slotsLe.cons (And.intro rfl (AV.Le.refl _)) slotsLe.nil)))))))))
        · clear h7_ h17
          intro s8 hc21
          ((conv=>whnf);repeat((first|refine Ta ?_|refine Tz mix ?_|refine Tc ?_|refine Tb ?_|refine Td rfl ?_|refine Tl ?_|refine sE rfl ?_|refine dG (by kernel_rfl) ?_|fail);(conv=>whnf)))
          refine br_b rfl hc21 (fun c22 hc21 => ?_) (fun c22 hc21 => ?_)
          · have e := Option.some.inj hc21; subst e
            have e := done_out hs7; subst e
            have e := Option.some.inj h; subst e
            ((conv=>whnf);repeat((first|refine Ta ?_|refine Tz mix ?_|refine Tc ?_|refine Tb ?_|refine Td rfl ?_|refine Tl ?_|refine sE rfl ?_|refine dG (by kernel_rfl) ?_|fail);(conv=>whnf)))
            exact And.intro (AV.Le.refl _) rfl
          · have e := Option.some.inj hc21; subst e
            ((conv=>whnf);repeat((first|refine Ta ?_|refine Tz mix ?_|refine Tc ?_|refine Tb ?_|refine Td rfl ?_|refine Tl ?_|refine sE rfl ?_|refine dG (by kernel_rfl) ?_|fail);(conv=>whnf)))
            exact hn7 _ (IntKind.wrap .i64 (s5 + (1 : Int))) hs7 (weak_gen [0] rfl rfl (storeLe.cons rfl (objLe.mk id id (rowLe_vals (valsLe.cons (cellsLe_refl rfl) valsLe.nil))) storeLe.nil) (slotsLe.cons (And.intro rfl (AV.Le.refl _)) (slotsLe.cons (And.intro rfl (AV.Le.refl _)) (slotsLe.cons (And.intro rfl (AV.Le.refl _)) (slotsLe.cons (And.intro rfl (AV.Le.refl _)) (slotsLe.cons (And.intro rfl (AV.Le.refl _)) (slotsLe.cons (And.intro rfl (AV.Le.refl _)) slotsLe.nil)))))))
      · have e := Option.some.inj h7_; subst e
        have e := done_out hs7; subst e
        ((conv=>whnf);repeat((first|refine Ta ?_|refine Tz mix ?_|refine Tc ?_|refine Tb ?_|refine Td rfl ?_|refine Tl ?_|refine sE rfl ?_|refine dG (by kernel_rfl) ?_|fail);(conv=>whnf)))
        exact hn15 _ () h (weak_gen [] rfl rfl storeLe.nil slotsLe.nil)
    · clear h h15
      intro s2 hc23
      have e := Option.some.inj hc23; subst e
      ((conv=>whnf);repeat((first|refine Ta ?_|refine Tz mix ?_|refine Tc ?_|refine Tb ?_|refine Td rfl ?_|refine Tl ?_|refine sE rfl ?_|refine dG (by kernel_rfl) ?_|fail);(conv=>whnf)))
      exact And.intro (AV.Le.refl _) rfl
theorem c_comp_row_add_own2 (p_w_0 : (List T_api_Row)) (p_w_1 : (List T_api_Range)) (p_w_2 : (List Int)) (p_w_3 : (List Int)) (p_w_4 : Int) (p_w_5 : Int) (p_r : Int) (r : (List T_api_Row) × (List T_api_Range) × (List Int) × (List Int) × Int × Int) (h : m_comp_row_add_own2 p_w_0 p_w_1 p_w_2 p_w_3 p_w_4 p_w_5 p_r = some r) : ContractM 1 pl 160 [(.mp 0 0 0), (.int .i32 p_r)] [some ⟨6, 174, (.vals [(.agg [(e_L_api_Row p_w_0), (e_L_api_Range p_w_1), (e_L_i32 p_w_2), (.ms 1 p_w_3.length), (.int .i64 p_w_4), (.int .i64 p_w_5)])]), false, false⟩, some ⟨1, 21, (.ints .i32 p_w_3), false, true⟩] (.tup []) [some ⟨6, 174, (.vals [(.agg [(e_L_api_Row r.1), (e_L_api_Range r.2.1), (e_L_i32 r.2.2.1), (.ms 1 r.2.2.2.1.length), (.int .i64 r.2.2.2.2.1), (.int .i64 r.2.2.2.2.2)])]), false, false⟩, some ⟨1, 21, (.ints .i32 r.2.2.2.1), false, true⟩] := by
  refine contract_own 1 (.t false .z (.t false .z (.t true (.t true .z .z) .z))) rfl Tryd.func160 rfl (by kernel_rfl) ?_
  ((conv=>whnf);repeat((first|refine Ta ?_|refine Tz mix ?_|refine Tc ?_|refine Tb ?_|refine Td rfl ?_|refine Tl ?_|refine sE rfl ?_|refine dG (by kernel_rfl) ?_|fail);(conv=>whnf)))
  refine bnd h (fun y1 hy1 h => ?_)
  refine Or.inl ⟨_, c_decomp_Class _ _ _ hy1, rfl, ?_⟩
  ((conv=>whnf);repeat((first|refine Ta ?_|refine Tz mix ?_|refine Tc ?_|refine Tb ?_|refine Td rfl ?_|refine Tl ?_|refine sE rfl ?_|refine dG (by kernel_rfl) ?_|fail);(conv=>whnf)))
  refine bnd h (fun x8 h8 h => ?_)
  refine cut_at (fun s2 : Unit => mkF 104 [(0, (.mp 0 0 0)), (1, (.int .i32 p_r)), (4, (.int .i64 y1))] [some ⟨6, 174, (.vals [(.agg [(e_L_api_Row p_w_0), (e_L_api_Range p_w_1), (e_L_i32 p_w_2), (.ms 1 p_w_3.length), (.int .i64 p_w_4), (.int .i64 p_w_5)])]), false, false⟩, some ⟨1, 21, (.ints .i32 p_w_3), false, true⟩]) (fun s2 : Unit => m_comp_row_add_own2_K3 p_w_0 p_w_1 p_w_2 p_w_3 p_w_4 p_w_5 p_r y1 s2 = some r) ?_ ?_
  · intro Kn8 hn8
    ((conv=>whnf);repeat((first|refine Ta ?_|refine Tz mix ?_|refine Tc ?_|refine Tb ?_|refine Td rfl ?_|refine Tl ?_|refine sE rfl ?_|refine dG (by kernel_rfl) ?_|fail);(conv=>whnf)))
    refine bnd h8 (fun x9 h9 h8 => ?_)
    refine cut_at (fun s4 : Bool => mkF 104 [(0, (.mp 0 0 0)), (1, (.int .i32 p_r)), (4, (.int .i64 y1)), (40, (.bool s4))] [some ⟨6, 174, (.vals [(.agg [(e_L_api_Row p_w_0), (e_L_api_Range p_w_1), (e_L_i32 p_w_2), (.ms 1 p_w_3.length), (.int .i64 p_w_4), (.int .i64 p_w_5)])]), false, false⟩, some ⟨1, 21, (.ints .i32 p_w_3), false, true⟩]) (fun s4 : Bool => m_comp_row_add_own2_K5 p_w_0 p_w_1 p_w_2 p_w_3 p_w_4 p_w_5 p_r s4 = some x8) ?_ ?_
    · intro Kn9 hn9
      ((conv=>whnf);repeat((first|refine Ta ?_|refine Tz mix ?_|refine Tc ?_|refine Tb ?_|refine Td rfl ?_|refine Tl ?_|refine sE rfl ?_|refine dG (by kernel_rfl) ?_|fail);(conv=>whnf)))
      refine br_b rfl h9 (fun c10 h9 => ?_) (fun c10 h9 => ?_)
      · ((conv=>whnf);repeat((first|refine Ta ?_|refine Tz mix ?_|refine Tc ?_|refine Tb ?_|refine Td rfl ?_|refine Tl ?_|refine sE rfl ?_|refine dG (by kernel_rfl) ?_|fail);(conv=>whnf)))
        refine br_b rfl h9 (fun c11 h9 => ?_) (fun c11 h9 => ?_)
        · have e := Option.some.inj h9; subst e
          ((conv=>whnf);repeat((first|refine Ta ?_|refine Tz mix ?_|refine Tc ?_|refine Tb ?_|refine Td rfl ?_|refine Tl ?_|refine sE rfl ?_|refine dG (by kernel_rfl) ?_|fail);(conv=>whnf)))
          exact hn9 _ true h8 (weak_gen [0, 1] rfl rfl (storeLe.cons rfl (objLe.mk id id (rowLe_vals (valsLe.cons (cellsLe.cons (And.intro rfl (AV.Le.refl _)) (cellsLe.cons (And.intro rfl (AV.Le.refl _)) (cellsLe.cons (And.intro rfl (AV.Le.refl _)) (cellsLe.cons (And.intro rfl (AV.Le.of_eq (congrArg (AV.ms _) (by first | rfl | omega | (simp; omega) | simp)))) (cellsLe.cons (And.intro rfl (AV.Le.refl _)) (cellsLe.cons (And.intro rfl (AV.Le.refl _)) cellsLe.nil)))))) valsLe.nil))) (storeLe.cons rfl (objLe.mk id id (by first | exact rowLe_same fun _ _ _ => rfl | (simp; exact rowLe_same fun _ _ _ => rfl))) storeLe.nil)) (slotsLe.cons (And.intro rfl (AV.Le.refl _)) (slotsLe.cons (And.intro rfl (AV.Le.refl _)) (slotsLe.cons (And.intro rfl (AV.Le.refl _)) (slotsLe.cons (And.intro rfl (AV.Le.refl _)) slotsLe.nil)))))
        · have e := Option.some.inj h9; subst e
          ((conv=>whnf);repeat((first|refine Ta ?_|refine Tz mix ?_|refine Tc ?_|refine Tb ?_|refine Td rfl ?_|refine Tl ?_|refine sE rfl ?_|refine dG (by kernel_rfl) ?_|fail);(conv=>whnf)))
          exact hn9 _ (decide (p_w_5 < y1)) h8 (weak_gen [0, 1] rfl rfl (storeLe.cons rfl (objLe.mk id id (rowLe_vals (valsLe.cons (cellsLe.cons (And.intro rfl (AV.Le.refl _)) (cellsLe.cons (And.intro rfl (AV.Le.refl _)) (cellsLe.cons (And.intro rfl (AV.Le.refl _)) (cellsLe.cons (And.intro rfl (AV.Le.of_eq (congrArg (AV.ms _) (by first | rfl | omega | (simp; omega) | simp)))) (cellsLe.cons (And.intro rfl (AV.Le.refl _)) (cellsLe.cons (And.intro rfl (AV.Le.refl _)) cellsLe.nil)))))) valsLe.nil))) (storeLe.cons rfl (objLe.mk id id (by first | exact rowLe_same fun _ _ _ => rfl | (simp; exact rowLe_same fun _ _ _ => rfl))) storeLe.nil)) (slotsLe.cons (And.intro rfl (AV.Le.refl _)) (slotsLe.cons (And.intro rfl (AV.Le.refl _)) (slotsLe.cons (And.intro rfl (AV.Le.refl _)) (slotsLe.cons (And.intro rfl (AV.Le.refl _)) slotsLe.nil)))))
      · have e := Option.some.inj h9; subst e
        ((conv=>whnf);repeat((first|refine Ta ?_|refine Tz mix ?_|refine Tc ?_|refine Tb ?_|refine Td rfl ?_|refine Tl ?_|refine sE rfl ?_|refine dG (by kernel_rfl) ?_|fail);(conv=>whnf)))
        exact hn9 _ false h8 (weak_gen [0, 1] rfl rfl (storeLe.cons rfl (objLe.mk id id (rowLe_vals (valsLe.cons (cellsLe.cons (And.intro rfl (AV.Le.refl _)) (cellsLe.cons (And.intro rfl (AV.Le.refl _)) (cellsLe.cons (And.intro rfl (AV.Le.refl _)) (cellsLe.cons (And.intro rfl (AV.Le.of_eq (congrArg (AV.ms _) (by first | rfl | omega | (simp; omega) | simp)))) (cellsLe.cons (And.intro rfl (AV.Le.refl _)) (cellsLe.cons (And.intro rfl (AV.Le.refl _)) cellsLe.nil)))))) valsLe.nil))) (storeLe.cons rfl (objLe.mk id id (by first | exact rowLe_same fun _ _ _ => rfl | (simp; exact rowLe_same fun _ _ _ => rfl))) storeLe.nil)) (slotsLe.cons (And.intro rfl (AV.Le.refl _)) (slotsLe.cons (And.intro rfl (AV.Le.refl _)) (slotsLe.cons (And.intro rfl (AV.Le.refl _)) (slotsLe.cons (And.intro rfl (AV.Le.refl _)) slotsLe.nil)))))
    · clear h8 h9
      intro s4 hc12
      ((conv=>whnf);repeat((first|refine Ta ?_|refine Tz mix ?_|refine Tc ?_|refine Tb ?_|refine Td rfl ?_|refine Tl ?_|refine sE rfl ?_|refine dG (by kernel_rfl) ?_|fail);(conv=>whnf)))
      refine br_b rfl hc12 (fun c13 hc12 => ?_) (fun c13 hc12 => ?_)
      · ((conv=>whnf);repeat((first|refine Ta ?_|refine Tz mix ?_|refine Tc ?_|refine Tb ?_|refine Td rfl ?_|refine Tl ?_|refine sE rfl ?_|refine dG (by kernel_rfl) ?_|fail);(conv=>whnf)))
        refine grd2 rfl rfl hc12 (fun hc12 => ?_)
        ((conv=>whnf);repeat((first|refine Ta ?_|refine Tz mix ?_|refine Tc ?_|refine Tb ?_|refine Td rfl ?_|refine Tl ?_|refine sE rfl ?_|refine dG (by kernel_rfl) ?_|fail);(conv=>whnf)))
        refine bnd hc12 (fun y6 hy6 hc12 => ?_)
        refine Or.inl ⟨_, c_comp_Pair _ _ _ _ hy6, rfl, ?_⟩
        ((conv=>whnf);repeat((first|refine Ta ?_|refine Tz mix ?_|refine Tc ?_|refine Tb ?_|refine Td rfl ?_|refine Tl ?_|refine sE rfl ?_|refine dG (by kernel_rfl) ?_|fail);(conv=>whnf)))
        refine br_b rfl hc12 (fun c14 hc12 => ?_) (fun c14 hc12 => ?_)
        · ((conv=>whnf);repeat((first|refine Ta ?_|refine Tz mix ?_|refine Tc ?_|refine Tb ?_|refine Td rfl ?_|refine Tl ?_|refine sE rfl ?_|refine dG (by kernel_rfl) ?_|fail);(conv=>whnf)))
          refine grd2 rfl rfl hc12 (fun hc12 => ?_)
          have e := Option.some.inj hc12; subst e
          have e := Option.some.inj h; subst e
          ((conv=>whnf);repeat((first|refine Ta ?_|refine Tz mix ?_|refine Tc ?_|refine Tb ?_|refine Td rfl ?_|refine Tl ?_|refine sE rfl ?_|refine dG (by kernel_rfl) ?_|fail);(conv=>whnf)))
          exact Or.inr (Or.inr (weak_gen [0, 1] rfl rfl (storeLe.cons rfl (objLe.mk id id (rowLe_vals (valsLe.cons (cellsLe.cons (And.intro rfl (AV.Le.refl _)) (cellsLe.cons (And.intro rfl (AV.Le.refl _)) (cellsLe.cons (And.intro rfl (AV.Le.refl _)) (cellsLe.cons (And.intro rfl (AV.Le.of_eq (congrArg (AV.ms _) (by first | rfl | omega | (simp; omega) | simp)))) (cellsLe.cons (And.intro rfl (AV.Le.refl _)) (cellsLe.cons (And.intro rfl (AV.Le.refl _)) cellsLe.nil)))))) valsLe.nil))) (storeLe.cons rfl (objLe.mk id id (rowLe_ints (by first | rfl | simp))) storeLe.nil)) (slotsLe.cons (And.intro rfl (AV.Le.refl _)) slotsLe.nil)))
        · have e := Option.some.inj hc12; subst e
          ((conv=>whnf);repeat((first|refine Ta ?_|refine Tz mix ?_|refine Tc ?_|refine Tb ?_|refine Td rfl ?_|refine Tl ?_|refine sE rfl ?_|refine dG (by kernel_rfl) ?_|fail);(conv=>whnf)))
          exact hn8 _ () h (weak_gen [0, 1] rfl rfl (storeLe.cons rfl (objLe.mk id id (rowLe_vals (valsLe.cons (cellsLe.cons (And.intro rfl (AV.Le.refl _)) (cellsLe.cons (And.intro rfl (AV.Le.refl _)) (cellsLe.cons (And.intro rfl (AV.Le.refl _)) (cellsLe.cons (And.intro rfl (AV.Le.of_eq (congrArg (AV.ms _) (by first | rfl | omega | (simp; omega) | simp)))) (cellsLe.cons (And.intro rfl (AV.Le.refl _)) (cellsLe.cons (And.intro rfl (AV.Le.refl _)) cellsLe.nil)))))) valsLe.nil))) (storeLe.cons rfl (objLe.mk id id (by first | exact rowLe_same fun _ _ _ => rfl | (simp; exact rowLe_same fun _ _ _ => rfl))) storeLe.nil)) (slotsLe.cons (And.intro rfl (AV.Le.refl _)) (slotsLe.cons (And.intro rfl (AV.Le.refl _)) (slotsLe.cons (And.intro rfl (AV.Le.refl _)) slotsLe.nil))))
      · have e := Option.some.inj hc12; subst e
        ((conv=>whnf);repeat((first|refine Ta ?_|refine Tz mix ?_|refine Tc ?_|refine Tb ?_|refine Td rfl ?_|refine Tl ?_|refine sE rfl ?_|refine dG (by kernel_rfl) ?_|fail);(conv=>whnf)))
        exact hn8 _ () h (weak_gen [0, 1] rfl rfl (storeLe.cons rfl (objLe.mk id id (rowLe_vals (valsLe.cons (cellsLe.cons (And.intro rfl (AV.Le.refl _)) (cellsLe.cons (And.intro rfl (AV.Le.refl _)) (cellsLe.cons (And.intro rfl (AV.Le.refl _)) (cellsLe.cons (And.intro rfl (AV.Le.of_eq (congrArg (AV.ms _) (by first | rfl | omega | (simp; omega) | simp)))) (cellsLe.cons (And.intro rfl (AV.Le.refl _)) (cellsLe.cons (And.intro rfl (AV.Le.refl _)) cellsLe.nil)))))) valsLe.nil))) (storeLe.cons rfl (objLe.mk id id (by first | exact rowLe_same fun _ _ _ => rfl | (simp; exact rowLe_same fun _ _ _ => rfl))) storeLe.nil)) (slotsLe.cons (And.intro rfl (AV.Le.refl _)) (slotsLe.cons (And.intro rfl (AV.Le.refl _)) (slotsLe.cons (And.intro rfl (AV.Le.refl _)) slotsLe.nil))))
  · clear h h8
    intro s2 hc15
    ((conv=>whnf);repeat((first|refine Ta ?_|refine Tz mix ?_|refine Tc ?_|refine Tb ?_|refine Td rfl ?_|refine Tl ?_|refine sE rfl ?_|refine dG (by kernel_rfl) ?_|fail);(conv=>whnf)))
    obtain ⟨p16, hc15⟩ := grdO hc15
    refine ⟨[], 1, (.ints .i32 [p_r]), ⟨by simp [Row.len] <;> omega, rfl, _, rfl, by simp [Row.len] <;> omega, fun j hj => .inl rfl⟩, trivial, fun j hj => rfl, ?_⟩
    conv => whnf
    refine ⟨by simp [Row.len]; try omega, p16, by omega, ?_⟩
    ((conv=>whnf);repeat((first|refine Ta ?_|refine Tz mix ?_|refine Tc ?_|refine Tb ?_|refine Td rfl ?_|refine Tl ?_|refine sE rfl ?_|refine dG (by kernel_rfl) ?_|fail);(conv=>whnf)))
    refine br_b rfl hc15 (fun c17 hc15 => ?_) (fun c17 hc15 => ?_)
    · have e := Option.some.inj hc15; subst e
      ((conv=>whnf);repeat((first|refine Ta ?_|refine Tz mix ?_|refine Tc ?_|refine Tb ?_|refine Td rfl ?_|refine Tl ?_|refine sE rfl ?_|refine dG (by kernel_rfl) ?_|fail);(conv=>whnf)))
      exact Or.inr (Or.inr (weak_gen [0, 3] rfl rfl (storeLe.cons rfl (objLe.mk id id (rowLe_vals (valsLe.cons (cellsLe.cons (And.intro rfl (AV.Le.refl _)) (cellsLe.cons (And.intro rfl (AV.Le.refl _)) (cellsLe.cons (And.intro rfl (AV.Le.refl _)) (cellsLe.cons (And.intro rfl (AV.Le.of_eq (congrArg (AV.ms _) (by first | rfl | omega | (simp; omega) | simp)))) (cellsLe.cons (And.intro rfl (AV.Le.refl _)) (cellsLe.cons (And.intro rfl (AV.Le.refl _)) cellsLe.nil)))))) valsLe.nil))) (storeLe.cons rfl (objLe.mk id id (rowLe_ints (by first | rfl | simp))) storeLe.nil)) (slotsLe.cons (And.intro rfl (AV.Le.refl _)) slotsLe.nil)))
    · have e := Option.some.inj hc15; subst e
      ((conv=>whnf);repeat((first|refine Ta ?_|refine Tz mix ?_|refine Tc ?_|refine Tb ?_|refine Td rfl ?_|refine Tl ?_|refine sE rfl ?_|refine dG (by kernel_rfl) ?_|fail);(conv=>whnf)))
      exact Or.inr (Or.inr (weak_gen [0, 3] rfl rfl (storeLe.cons rfl (objLe.mk id id (rowLe_vals (valsLe.cons (cellsLe.cons (And.intro rfl (AV.Le.refl _)) (cellsLe.cons (And.intro rfl (AV.Le.refl _)) (cellsLe.cons (And.intro rfl (AV.Le.refl _)) (cellsLe.cons (And.intro rfl (AV.Le.of_eq (congrArg (AV.ms _) (by first | rfl | omega | (simp; omega) | simp)))) (cellsLe.cons (And.intro rfl (AV.Le.refl _)) (cellsLe.cons (And.intro rfl (AV.Le.refl _)) cellsLe.nil)))))) valsLe.nil))) (storeLe.cons rfl (objLe.mk id id (rowLe_ints (by first | rfl | simp))) storeLe.nil)) (slotsLe.cons (And.intro rfl (AV.Le.refl _)) slotsLe.nil)))
theorem c_comp_Put (p_t : T_api_Norm) (p_l : (List Int)) (r : (List Int)) (h : m_comp_Put p_t p_l = some r) : Contract pl 130 [(e_api_Norm p_t), (e_L_i32 p_l)] [] (e_L_i32 r) [] := by
  refine contract_of (.t false .z (.t false .z (.t false .z (.t true .z .z)))) Tryd.func130 rfl (by kernel_rfl) ?_
  ((conv=>whnf);repeat((first|refine Ta ?_|refine Tz mix ?_|refine Tc ?_|refine Tb ?_|refine Td rfl ?_|refine Tl ?_|refine sE rfl ?_|refine dG (by kernel_rfl) ?_|fail);(conv=>whnf)))
  refine bnd h (fun x9 h9 h => ?_)
  refine cut_at (fun s1 : (List T_api_Row) × (List T_api_Range) × (List Int) × (List Int) × Int × Int => mkF 28 [(5, (.mp 0 0 0))] [some ⟨6, 174, (.vals [(.agg [(e_L_api_Row s1.1), (e_L_api_Range s1.2.1), (e_L_i32 s1.2.2.1), (.ms 1 s1.2.2.2.1.length), (.int .i64 s1.2.2.2.2.1), (.int .i64 s1.2.2.2.2.2)])]), false, false⟩, some ⟨1, 21, (.ints .i32 s1.2.2.2.1), false, true⟩]) (fun s1 : (List T_api_Row) × (List T_api_Range) × (List Int) × (List Int) × Int × Int => some s1.2.2.2.1 = some r) ?_ ?_
  · intro Kn9 hn9
    ((conv=>whnf);repeat((first|refine Ta ?_|refine Tz mix ?_|refine Tc ?_|refine Tb ?_|refine Td rfl ?_|refine Tl ?_|refine sE rfl ?_|refine dG (by kernel_rfl) ?_|fail);(conv=>whnf)))
    refine loop_iter (fun s4 : (List T_api_Row) × (List T_api_Range) × (List Int) × (List Int) × Int × Int × Int => mkF 28 [(5, (.mp 0 0 0)), (6, (.fn (.func 160) [(.mp 0 0 0)] [])), (14, (e_L_i32 p_l)), (15, (.int .i64 ((p_l.length : Nat) : Int))), (16, (.int .i64 s4.2.2.2.2.2.2))] [some ⟨6, 174, (.vals [(.agg [(e_L_api_Row s4.1), (e_L_api_Range s4.2.1), (e_L_i32 s4.2.2.1), (.ms 1 s4.2.2.2.1.length), (.int .i64 s4.2.2.2.2.1), (.int .i64 s4.2.2.2.2.2.1)])]), false, false⟩, some ⟨1, 21, (.ints .i32 s4.2.2.2.1), false, true⟩]) h9 (weak_trans (weak_nilc 1 0 3 _ [(.agg [(e_L_api_Row p_t.f_Rows), (e_L_api_Range p_t.f_Classes), (e_L_i32 p_t.f_Excluded), (.sl (some true) 0 fun _ => .unk), (.int .i64 (-1 : Int)), (.int .i64 (0 : Int))])] [(e_L_api_Row p_t.f_Rows), (e_L_api_Range p_t.f_Classes), (e_L_i32 p_t.f_Excluded), (.sl (some true) 0 fun _ => .unk), (.int .i64 (-1 : Int)), (.int .i64 (0 : Int))] 1 21 (.ints .i32 []) _ rfl rfl rfl rfl rfl trivial (by first | exact Nat.zero_le _ | simp)) (weak_gen [1, 2] rfl rfl (storeLe.cons rfl (objLe.mk id id (rowLe_vals (valsLe.cons (cellsLe.cons (And.intro rfl (AV.Le.refl _)) (cellsLe.cons (And.intro rfl (AV.Le.refl _)) (cellsLe.cons (And.intro rfl (AV.Le.refl _)) (cellsLe.cons (And.intro rfl (AV.Le.refl _)) (cellsLe.cons (And.intro rfl (AV.Le.refl _)) (cellsLe.cons (And.intro rfl (AV.Le.refl _)) cellsLe.nil)))))) valsLe.nil))) (storeLe.cons rfl (objLe.mk id id (rowLe_ints (by first | rfl | simp))) storeLe.nil)) (slotsLe.cons (And.intro rfl (AV.Le.refl _)) (slotsLe.cons (And.intro rfl (AV.Le.refl _)) (slotsLe.cons (And.intro rfl (AV.Le.refl _)) (slotsLe.cons (And.intro rfl (AV.Le.refl _)) (slotsLe.cons (And.intro rfl (AV.Le.refl _)) slotsLe.nil))))))) ?_
    intro k6 s4 st6 Kn6 hn6 h6_ hs6
    ((conv=>whnf);repeat((first|refine Ta ?_|refine Tz mix ?_|refine Tc ?_|refine Tb ?_|refine Td rfl ?_|refine Tl ?_|refine sE rfl ?_|refine dG (by kernel_rfl) ?_|fail);(conv=>whnf)))
    refine br_b rfl h6_ (fun c10 h6_ => ?_) (fun c10 h6_ => ?_)
    · ((conv=>whnf);repeat((first|refine Ta ?_|refine Tz mix ?_|refine Tc ?_|refine Tb ?_|refine Td rfl ?_|refine Tl ?_|refine sE rfl ?_|refine dG (by kernel_rfl) ?_|fail);(conv=>whnf)))
      refine grd2 rfl rfl h6_ (fun h6_ => ?_)
      ((conv=>whnf);repeat((first|refine Ta ?_|refine Tz mix ?_|refine Tc ?_|refine Tb ?_|refine Td rfl ?_|refine Tl ?_|refine sE rfl ?_|refine dG (by kernel_rfl) ?_|fail);(conv=>whnf)))
      refine bnd h6_ (fun y7 hy7 h6_ => ?_)
      refine Or.inr (own_intro (own_call [0, 1] (c_comp_row_add_own2 _ _ _ _ _ _ _ _ hy7) rfl (storeLe.cons rfl (objLe.mk id id (rowLe_vals (valsLe.cons (cellsLe.cons (And.intro rfl (AV.Le.refl _)) (cellsLe.cons (And.intro rfl (AV.Le.refl _)) (cellsLe.cons (And.intro rfl (AV.Le.refl _)) (cellsLe.cons (And.intro rfl (AV.Le.of_eq (congrArg (AV.ms _) (by first | rfl | omega | (simp; omega) | simp)))) (cellsLe.cons (And.intro rfl (AV.Le.refl _)) (cellsLe.cons (And.intro rfl (AV.Le.refl _)) cellsLe.nil)))))) valsLe.nil))) (storeLe.cons rfl (objLe.mk id id (rowLe_ints (by first | rfl | simp))) storeLe.nil)) (cellsLe.cons (And.intro rfl (AV.Le.refl _)) (cellsLe.cons (And.intro rfl (AV.Le.refl _)) cellsLe.nil)) rfl) ?_)
      have e := Option.some.inj h6_; subst e
      ((conv=>whnf);repeat((first|refine Ta ?_|refine Tz mix ?_|refine Tc ?_|refine Tb ?_|refine Td rfl ?_|refine Tl ?_|refine sE rfl ?_|refine dG (by kernel_rfl) ?_|fail);(conv=>whnf)))
      exact hn6 _ (y7.1, y7.2.1, y7.2.2.1, y7.2.2.2.1, y7.2.2.2.2.1, y7.2.2.2.2.2, (IntKind.wrap .i64 (s4.2.2.2.2.2.2 + (1 : Int)))) hs6 (weak_gen [0, 2] rfl rfl (storeLe.cons rfl (objLe.mk id id (rowLe_vals (valsLe.cons (cellsLe.cons (And.intro rfl (AV.Le.refl _)) (cellsLe.cons (And.intro rfl (AV.Le.refl _)) (cellsLe.cons (And.intro rfl (AV.Le.refl _)) (cellsLe.cons (And.intro rfl (AV.Le.of_eq (congrArg (AV.ms _) (by first | rfl | omega | (simp; omega) | simp)))) (cellsLe.cons (And.intro rfl (AV.Le.refl _)) (cellsLe.cons (And.intro rfl (AV.Le.refl _)) cellsLe.nil)))))) valsLe.nil))) (storeLe.cons rfl (objLe.mk id id (rowLe_ints (by first | rfl | simp))) storeLe.nil)) (slotsLe.cons (And.intro rfl (AV.Le.refl _)) (slotsLe.cons (And.intro rfl (AV.Le.refl _)) (slotsLe.cons (And.intro rfl (AV.Le.refl _)) (slotsLe.cons (And.intro rfl (AV.Le.refl _)) (slotsLe.cons (And.intro rfl (AV.Le.refl _)) slotsLe.nil))))))
    · have e := Option.some.inj h6_; subst e
      have e := done_out hs6; subst e
      ((conv=>whnf);repeat((first|refine Ta ?_|refine Tz mix ?_|refine Tc ?_|refine Tb ?_|refine Td rfl ?_|refine Tl ?_|refine sE rfl ?_|refine dG (by kernel_rfl) ?_|fail);(conv=>whnf)))
      exact hn9 _ (s4.1, s4.2.1, s4.2.2.1, s4.2.2.2.1, s4.2.2.2.2.1, s4.2.2.2.2.2.1) h (weak_gen [0, 1] rfl rfl (storeLe.cons rfl (objLe.mk id id (rowLe_vals (valsLe.cons (cellsLe.cons (And.intro rfl (AV.Le.refl _)) (cellsLe.cons (And.intro rfl (AV.Le.refl _)) (cellsLe.cons (And.intro rfl (AV.Le.refl _)) (cellsLe.cons (And.intro rfl (AV.Le.of_eq (congrArg (AV.ms _) (by first | rfl | omega | (simp; omega) | simp)))) (cellsLe.cons (And.intro rfl (AV.Le.refl _)) (cellsLe.cons (And.intro rfl (AV.Le.refl _)) cellsLe.nil)))))) valsLe.nil))) (storeLe.cons rfl (objLe.mk id id (rowLe_ints (by first | rfl | simp))) storeLe.nil)) (slotsLe.cons (And.intro rfl (AV.Le.refl _)) slotsLe.nil))
  · clear h h9
    intro s1 hc11
    have e := Option.some.inj hc11; subst e
    ((conv=>whnf);repeat((first|refine Ta ?_|refine Tz mix ?_|refine Tc ?_|refine Tb ?_|refine Td rfl ?_|refine Tl ?_|refine sE rfl ?_|refine dG (by kernel_rfl) ?_|fail);(conv=>whnf)))
    exact And.intro (AV.Le.refl _) rfl
theorem c_comp_All (p_t : T_api_Norm) (p_l : (List Int)) (r : (List Int)) (h : m_comp_All p_t p_l = some r) : Contract pl 69 [(e_api_Norm p_t), (e_L_i32 p_l)] [] (e_L_i32 r) [] := by
  refine contract_of .z Tryd.func69 rfl (by kernel_rfl) ?_
  ((conv=>whnf);repeat((first|refine Ta ?_|refine Tz mix ?_|refine Tc ?_|refine Tb ?_|refine Td rfl ?_|refine Tl ?_|refine sE rfl ?_|refine dG (by kernel_rfl) ?_|fail);(conv=>whnf)))
  refine bnd h (fun y1 hy1 h => ?_)
  refine Or.inl ⟨_, c_decomp_All _ _ _ hy1, rfl, ?_⟩
  ((conv=>whnf);repeat((first|refine Ta ?_|refine Tz mix ?_|refine Tc ?_|refine Tb ?_|refine Td rfl ?_|refine Tl ?_|refine sE rfl ?_|refine dG (by kernel_rfl) ?_|fail);(conv=>whnf)))
  refine bnd h (fun y2 hy2 h => ?_)
  refine Or.inl ⟨_, c_comp_Put _ _ _ hy2, rfl, ?_⟩
  have e := Option.some.inj h; subst e
  ((conv=>whnf);repeat((first|refine Ta ?_|refine Tz mix ?_|refine Tc ?_|refine Tb ?_|refine Td rfl ?_|refine Tl ?_|refine sE rfl ?_|refine dG (by kernel_rfl) ?_|fail);(conv=>whnf)))
  exact And.intro (AV.Le.refl _) rfl
theorem c_eponymlaw01_Same (p_a : (List Int)) (p_b : (List Int)) (r : Bool) (h : m_eponymlaw01_Same p_a p_b = some r) : Contract pl 32 [(e_L_i32 p_a), (e_L_i32 p_b)] [] (AV.bool r) [] := by
  refine contract_of (.t false .z (.t false .z (.t true .z .z))) Tryd.func32 rfl (by kernel_rfl) ?_
  ((conv=>whnf);repeat((first|refine Ta ?_|refine Tz mix ?_|refine Tc ?_|refine Tb ?_|refine Td rfl ?_|refine Tl ?_|refine sE rfl ?_|refine dG (by kernel_rfl) ?_|fail);(conv=>whnf)))
  refine br_b rfl h (fun c10 h => ?_) (fun c10 h => ?_)
  · have e := Option.some.inj h; subst e
    ((conv=>whnf);repeat((first|refine Ta ?_|refine Tz mix ?_|refine Tc ?_|refine Tb ?_|refine Td rfl ?_|refine Tl ?_|refine sE rfl ?_|refine dG (by kernel_rfl) ?_|fail);(conv=>whnf)))
    exact And.intro (AV.Le.refl _) rfl
  · ((conv=>whnf);repeat((first|refine Ta ?_|refine Tz mix ?_|refine Tc ?_|refine Tb ?_|refine Td rfl ?_|refine Tl ?_|refine sE rfl ?_|refine dG (by kernel_rfl) ?_|fail);(conv=>whnf)))
    refine bnd h (fun x11 h11 h => ?_)
    refine cut_at (fun s1 : Unit => mkF 26 [] []) (fun s1 : Unit => some true = some r) ?_ ?_
    · intro Kn11 hn11
      ((conv=>whnf);repeat((first|refine Ta ?_|refine Tz mix ?_|refine Tc ?_|refine Tb ?_|refine Td rfl ?_|refine Tl ?_|refine sE rfl ?_|refine dG (by kernel_rfl) ?_|fail);(conv=>whnf)))
      refine loop_iter (fun s4 : Int => mkF 26 [(0, (e_L_i32 p_a)), (1, (e_L_i32 p_b)), (5, (.int .i64 s4))] []) h11 (weak_gen [] rfl rfl storeLe.nil (slotsLe.cons (And.intro rfl (AV.Le.refl _)) (slotsLe.cons (And.intro rfl (AV.Le.refl _)) (slotsLe.cons (And.intro rfl (AV.Le.refl _)) slotsLe.nil)))) ?_
      intro k6 s4 st6 Kn6 hn6 h6_ hs6
      ((conv=>whnf);repeat((first|refine Ta ?_|refine Tz mix ?_|refine Tc ?_|refine Tb ?_|refine Td rfl ?_|refine Tl ?_|refine sE rfl ?_|refine dG (by kernel_rfl) ?_|fail);(conv=>whnf)))
      refine br_b rfl h6_ (fun c12 h6_ => ?_) (fun c12 h6_ => ?_)
      · ((conv=>whnf);repeat((first|refine Ta ?_|refine Tz mix ?_|refine Tc ?_|refine Tb ?_|refine Td rfl ?_|refine Tl ?_|refine sE rfl ?_|refine dG (by kernel_rfl) ?_|fail);(conv=>whnf)))
        refine grd2 rfl rfl h6_ (fun h6_ => ?_)
        ((conv=>whnf);repeat((first|refine Ta ?_|refine Tz mix ?_|refine Tc ?_|refine Tb ?_|refine Td rfl ?_|refine Tl ?_|refine sE rfl ?_|refine dG (by kernel_rfl) ?_|fail);(conv=>whnf)))
        refine grd2 rfl rfl h6_ (fun h6_ => ?_)
        ((conv=>whnf);repeat((first|refine Ta ?_|refine Tz mix ?_|refine Tc ?_|refine Tb ?_|refine Td rfl ?_|refine Tl ?_|refine sE rfl ?_|refine dG (by kernel_rfl) ?_|fail);(conv=>whnf)))
        refine br_b rfl h6_ (fun c13 h6_ => ?_) (fun c13 h6_ => ?_)
        · have e := Option.some.inj h6_; subst e
          have e := done_out hs6; subst e
          have e := Option.some.inj h; subst e
          ((conv=>whnf);repeat((first|refine Ta ?_|refine Tz mix ?_|refine Tc ?_|refine Tb ?_|refine Td rfl ?_|refine Tl ?_|refine sE rfl ?_|refine dG (by kernel_rfl) ?_|fail);(conv=>whnf)))
          exact And.intro (AV.Le.refl _) rfl
        · have e := Option.some.inj h6_; subst e
          ((conv=>whnf);repeat((first|refine Ta ?_|refine Tz mix ?_|refine Tc ?_|refine Tb ?_|refine Td rfl ?_|refine Tl ?_|refine sE rfl ?_|refine dG (by kernel_rfl) ?_|fail);(conv=>whnf)))
          exact hn6 _ (IntKind.wrap .i64 (s4 + (1 : Int))) hs6 (weak_gen [] rfl rfl storeLe.nil (slotsLe.cons (And.intro rfl (AV.Le.refl _)) (slotsLe.cons (And.intro rfl (AV.Le.refl _)) (slotsLe.cons (And.intro rfl (AV.Le.refl _)) slotsLe.nil))))
      · have e := Option.some.inj h6_; subst e
        have e := done_out hs6; subst e
        ((conv=>whnf);repeat((first|refine Ta ?_|refine Tz mix ?_|refine Tc ?_|refine Tb ?_|refine Td rfl ?_|refine Tl ?_|refine sE rfl ?_|refine dG (by kernel_rfl) ?_|fail);(conv=>whnf)))
        exact hn11 _ () h (weak_gen [] rfl rfl storeLe.nil slotsLe.nil)
    · clear h h11
      intro s1 hc14
      have e := Option.some.inj hc14; subst e
      ((conv=>whnf);repeat((first|refine Ta ?_|refine Tz mix ?_|refine Tc ?_|refine Tb ?_|refine Td rfl ?_|refine Tl ?_|refine sE rfl ?_|refine dG (by kernel_rfl) ?_|fail);(conv=>whnf)))
      exact And.intro (AV.Le.refl _) rfl
theorem c_eponymlaw05_awake  (r : Bool) (h : m_eponymlaw05_awake  = some r) : Contract pl 68 [] [] (AV.bool r) [] := by
  refine contract_of .z Tryd.func68 rfl (by kernel_rfl) ?_
  ((conv=>whnf);repeat((first|refine Ta ?_|refine Tz mix ?_|refine Tc ?_|refine Tb ?_|refine Td rfl ?_|refine Tl ?_|refine sE rfl ?_|refine dG (by kernel_rfl) ?_|fail);(conv=>whnf)))
  refine bnd h (fun y1 hy1 h => ?_)
  refine Or.inl ⟨_, contract_le (c_comp_All _ _ _ hy1) (argsLe.cons (AV.Le.agg (argsLe.cons (AV.Le.lits (enc := fun x => (e_api_Row x)) d_api_Row rfl (litsLe.cons (argsLe.cons (AV.Le.refl _) (argsLe.cons (AV.Le.list (by simp; try omega) (fun j hj => by first | rfl | rw [getD_sub hj] | (rw [getD_take hj]; simp) | simp)) argsLe.nil)) rfl litsLe.nil)) (argsLe.cons (AV.Le.lits (enc := fun x => (e_api_Range x)) d_api_Range rfl (litsLe.cons (argsLe.cons (AV.Le.refl _) (argsLe.cons (AV.Le.refl _) (argsLe.cons (AV.Le.refl _) argsLe.nil))) rfl litsLe.nil)) (argsLe.cons (AV.Le.list rfl (fun j hj => absurd hj (Nat.not_lt_zero _))) argsLe.nil)))) (argsLe.cons (AV.Le.list (by simp; try omega) (fun j hj => by first | rfl | rw [getD_sub hj] | (rw [getD_take hj]; simp) | simp)) argsLe.nil)), rfl, ?_⟩
  ((conv=>whnf);repeat((first|refine Ta ?_|refine Tz mix ?_|refine Tc ?_|refine Tb ?_|refine Td rfl ?_|refine Tl ?_|refine sE rfl ?_|refine dG (by kernel_rfl) ?_|fail);(conv=>whnf)))
  refine bnd h (fun y2 hy2 h => ?_)
  refine Or.inl ⟨_, contract_le (c_eponymlaw01_Same _ _ _ hy2) (argsLe.cons (AV.Le.refl _) (argsLe.cons (AV.Le.list (by simp; try omega) (fun j hj => by first | rfl | rw [getD_sub hj] | (rw [getD_take hj]; simp) | simp)) argsLe.nil)), rfl, ?_⟩
  ((conv=>whnf);repeat((first|refine Ta ?_|refine Tz mix ?_|refine Tc ?_|refine Tb ?_|refine Td rfl ?_|refine Tl ?_|refine sE rfl ?_|refine dG (by kernel_rfl) ?_|fail);(conv=>whnf)))
  refine br_b rfl h (fun c5 h => ?_) (fun c5 h => ?_)
  · ((conv=>whnf);repeat((first|refine Ta ?_|refine Tz mix ?_|refine Tc ?_|refine Tb ?_|refine Td rfl ?_|refine Tl ?_|refine sE rfl ?_|refine dG (by kernel_rfl) ?_|fail);(conv=>whnf)))
    refine bnd h (fun y3 hy3 h => ?_)
    refine Or.inl ⟨_, contract_le (c_comp_All _ _ _ hy3) (argsLe.cons (AV.Le.agg (argsLe.cons (AV.Le.lits (enc := fun x => (e_api_Row x)) d_api_Row rfl (litsLe.cons (argsLe.cons (AV.Le.refl _) (argsLe.cons (AV.Le.list (by simp; try omega) (fun j hj => by first | rfl | rw [getD_sub hj] | (rw [getD_take hj]; simp) | simp)) argsLe.nil)) rfl litsLe.nil)) (argsLe.cons (AV.Le.lits (enc := fun x => (e_api_Range x)) d_api_Range rfl (litsLe.cons (argsLe.cons (AV.Le.refl _) (argsLe.cons (AV.Le.refl _) (argsLe.cons (AV.Le.refl _) argsLe.nil))) rfl litsLe.nil)) (argsLe.cons (AV.Le.list rfl (fun j hj => absurd hj (Nat.not_lt_zero _))) argsLe.nil)))) (argsLe.cons (AV.Le.list (by simp; try omega) (fun j hj => by first | rfl | rw [getD_sub hj] | (rw [getD_take hj]; simp) | simp)) argsLe.nil)), rfl, ?_⟩
    ((conv=>whnf);repeat((first|refine Ta ?_|refine Tz mix ?_|refine Tc ?_|refine Tb ?_|refine Td rfl ?_|refine Tl ?_|refine sE rfl ?_|refine dG (by kernel_rfl) ?_|fail);(conv=>whnf)))
    refine bnd h (fun y4 hy4 h => ?_)
    refine Or.inl ⟨_, contract_le (c_eponymlaw01_Same _ _ _ hy4) (argsLe.cons (AV.Le.refl _) (argsLe.cons (AV.Le.list (by simp; try omega) (fun j hj => by first | rfl | rw [getD_sub hj] | (rw [getD_take hj]; simp) | simp)) argsLe.nil)), rfl, ?_⟩
    have e := Option.some.inj h; subst e
    ((conv=>whnf);repeat((first|refine Ta ?_|refine Tz mix ?_|refine Tc ?_|refine Tb ?_|refine Td rfl ?_|refine Tl ?_|refine sE rfl ?_|refine dG (by kernel_rfl) ?_|fail);(conv=>whnf)))
    exact And.intro (AV.Le.refl _) rfl
  · have e := Option.some.inj h; subst e
    ((conv=>whnf);repeat((first|refine Ta ?_|refine Tz mix ?_|refine Tc ?_|refine Tb ?_|refine Td rfl ?_|refine Tl ?_|refine sE rfl ?_|refine dG (by kernel_rfl) ?_|fail);(conv=>whnf)))
    exact And.intro (AV.Le.refl _) rfl
theorem c_eponymlaw04_Great (p_t : T_api_Norm) (r : Bool) (h : m_eponymlaw04_Great p_t = some r) : Contract pl 30 [(e_api_Norm p_t)] [] (AV.bool r) [] := by
  refine contract_of (.t false .z (.t false (.t true .z .z) (.t true .z .z))) Tryd.func30 rfl (by kernel_rfl) ?_
  ((conv=>whnf);repeat((first|refine Ta ?_|refine Tz mix ?_|refine Tc ?_|refine Tb ?_|refine Td rfl ?_|refine Tl ?_|refine sE rfl ?_|refine dG (by kernel_rfl) ?_|fail);(conv=>whnf)))
  refine bnd h (fun x12 h12 h => ?_)
  refine cut_at (fun s1 : Bool => mkF 35 [(1, (.mp 0 0 0)), (19, (.bool s1))] [some ⟨3, 40, (.vals [(e_api_Norm p_t)]), false, false⟩]) (fun s1 : Bool => m_eponymlaw04_Great_K2 p_t s1 = some r) ?_ ?_
  · intro Kn12 hn12
    ((conv=>whnf);repeat((first|refine Ta ?_|refine Tz mix ?_|refine Tc ?_|refine Tb ?_|refine Td rfl ?_|refine Tl ?_|refine sE rfl ?_|refine dG (by kernel_rfl) ?_|fail);(conv=>whnf)))
    refine br_b rfl h12 (fun c13 h12 => ?_) (fun c13 h12 => ?_)
    · have e := Option.some.inj h12; subst e
      ((conv=>whnf);repeat((first|refine Ta ?_|refine Tz mix ?_|refine Tc ?_|refine Tb ?_|refine Td rfl ?_|refine Tl ?_|refine sE rfl ?_|refine dG (by kernel_rfl) ?_|fail);(conv=>whnf)))
      exact hn12 _ true h (weak_gen [0] rfl rfl (storeLe.cons rfl (objLe.mk id id (rowLe_vals (valsLe.cons (cellsLe_refl rfl) valsLe.nil))) storeLe.nil) (slotsLe.cons (And.intro rfl (AV.Le.refl _)) (slotsLe.cons (And.intro rfl (AV.Le.refl _)) slotsLe.nil)))
    · ((conv=>whnf);repeat((first|refine Ta ?_|refine Tz mix ?_|refine Tc ?_|refine Tb ?_|refine Td rfl ?_|refine Tl ?_|refine sE rfl ?_|refine dG (by kernel_rfl) ?_|fail);(conv=>whnf)))
      refine br_b rfl h12 (fun c14 h12 => ?_) (fun c14 h12 => ?_)
      · have e := Option.some.inj h12; subst e
        ((conv=>whnf);repeat((first|refine Ta ?_|refine Tz mix ?_|refine Tc ?_|refine Tb ?_|refine Td rfl ?_|refine Tl ?_|refine sE rfl ?_|refine dG (by kernel_rfl) ?_|fail);(conv=>whnf)))
        exact hn12 _ true h (weak_gen [0] rfl rfl (storeLe.cons rfl (objLe.mk id id (rowLe_vals (valsLe.cons (cellsLe_refl rfl) valsLe.nil))) storeLe.nil) (slotsLe.cons (And.intro rfl (AV.Le.refl _)) (slotsLe.cons (And.intro rfl (AV.Le.refl _)) slotsLe.nil)))
      · have e := Option.some.inj h12; subst e
        ((conv=>whnf);repeat((first|refine Ta ?_|refine Tz mix ?_|refine Tc ?_|refine Tb ?_|refine Td rfl ?_|refine Tl ?_|refine sE rfl ?_|refine dG (by kernel_rfl) ?_|fail);(conv=>whnf)))
        exact hn12 _ (decide (((p_t.f_Excluded.length : Nat) : Int) > (40 : Int))) h (weak_gen [0] rfl rfl (storeLe.cons rfl (objLe.mk id id (rowLe_vals (valsLe.cons (cellsLe_refl rfl) valsLe.nil))) storeLe.nil) (slotsLe.cons (And.intro rfl (AV.Le.refl _)) (slotsLe.cons (And.intro rfl (AV.Le.refl _)) slotsLe.nil)))
  · clear h h12
    intro s1 hc15
    ((conv=>whnf);repeat((first|refine Ta ?_|refine Tz mix ?_|refine Tc ?_|refine Tb ?_|refine Td rfl ?_|refine Tl ?_|refine sE rfl ?_|refine dG (by kernel_rfl) ?_|fail);(conv=>whnf)))
    refine br_b rfl hc15 (fun c16 hc15 => ?_) (fun c16 hc15 => ?_)
    · have e := Option.some.inj hc15; subst e
      ((conv=>whnf);repeat((first|refine Ta ?_|refine Tz mix ?_|refine Tc ?_|refine Tb ?_|refine Td rfl ?_|refine Tl ?_|refine sE rfl ?_|refine dG (by kernel_rfl) ?_|fail);(conv=>whnf)))
      exact And.intro (AV.Le.refl _) rfl
    · ((conv=>whnf);repeat((first|refine Ta ?_|refine Tz mix ?_|refine Tc ?_|refine Tb ?_|refine Td rfl ?_|refine Tl ?_|refine sE rfl ?_|refine dG (by kernel_rfl) ?_|fail);(conv=>whnf)))
      refine bnd hc15 (fun x17 h17 hc15 => ?_)
      refine cut_at (fun s3 : Unit => mkF 35 [] []) (fun s3 : Unit => some false = some r) ?_ ?_
      · intro Kn17 hn17
        ((conv=>whnf);repeat((first|refine Ta ?_|refine Tz mix ?_|refine Tc ?_|refine Tb ?_|refine Td rfl ?_|refine Tl ?_|refine sE rfl ?_|refine dG (by kernel_rfl) ?_|fail);(conv=>whnf)))
        refine loop_iter (fun s6 : Int => mkF 35 [(1, (.mp 0 0 0)), (3, (.int .i64 s6))] [some ⟨3, 40, (.vals [(e_api_Norm p_t)]), false, false⟩]) h17 (weak_gen [0] rfl rfl (storeLe.cons rfl (objLe.mk id id (rowLe_vals (valsLe.cons (cellsLe_refl rfl) valsLe.nil))) storeLe.nil) (slotsLe.cons (And.intro rfl (AV.Le.refl _)) (slotsLe.cons (And.intro rfl (AV.Le.refl _)) slotsLe.nil))) ?_
        intro k8 s6 st8 Kn8 hn8 h8_ hs8
        ((conv=>whnf);repeat((first|refine Ta ?_|refine Tz mix ?_|refine Tc ?_|refine Tb ?_|refine Td rfl ?_|refine Tl ?_|refine sE rfl ?_|refine dG (by kernel_rfl) ?_|fail);(conv=>whnf)))
        refine br_b rfl h8_ (fun c18 h8_ => ?_) (fun c18 h8_ => ?_)
        · ((conv=>whnf);repeat((first|refine Ta ?_|refine Tz mix ?_|refine Tc ?_|refine Tb ?_|refine Td rfl ?_|refine Tl ?_|refine sE rfl ?_|refine dG (by kernel_rfl) ?_|fail);(conv=>whnf)))
          refine grd2 rfl rfl h8_ (fun h8_ => ?_)
          ((conv=>whnf);repeat((first|refine Ta ?_|refine Tz mix ?_|refine Tc ?_|refine Tb ?_|refine Td rfl ?_|refine Tl ?_|refine sE rfl ?_|refine dG (by kernel_rfl) ?_|fail);(conv=>whnf)))
          refine br_b rfl h8_ (fun c19 h8_ => ?_) (fun c19 h8_ => ?_)
          · have e := Option.some.inj h8_; subst e
            have e := done_out hs8; subst e
            have e := Option.some.inj hc15; subst e
            ((conv=>whnf);repeat((first|refine Ta ?_|refine Tz mix ?_|refine Tc ?_|refine Tb ?_|refine Td rfl ?_|refine Tl ?_|refine sE rfl ?_|refine dG (by kernel_rfl) ?_|fail);(conv=>whnf)))
            exact And.intro (AV.Le.refl _) rfl
          · have e := Option.some.inj h8_; subst e
            ((conv=>whnf);repeat((first|refine Ta ?_|refine Tz mix ?_|refine Tc ?_|refine Tb ?_|refine Td rfl ?_|refine Tl ?_|refine sE rfl ?_|refine dG (by kernel_rfl) ?_|fail);(conv=>whnf)))
            exact hn8 _ (IntKind.wrap .i64 (s6 + (1 : Int))) hs8 (weak_gen [0] rfl rfl (storeLe.cons rfl (objLe.mk id id (rowLe_vals (valsLe.cons (cellsLe_refl rfl) valsLe.nil))) storeLe.nil) (slotsLe.cons (And.intro rfl (AV.Le.refl _)) (slotsLe.cons (And.intro rfl (AV.Le.refl _)) slotsLe.nil)))
        · have e := Option.some.inj h8_; subst e
          have e := done_out hs8; subst e
          ((conv=>whnf);repeat((first|refine Ta ?_|refine Tz mix ?_|refine Tc ?_|refine Tb ?_|refine Td rfl ?_|refine Tl ?_|refine sE rfl ?_|refine dG (by kernel_rfl) ?_|fail);(conv=>whnf)))
          exact hn17 _ () hc15 (weak_gen [] rfl rfl storeLe.nil slotsLe.nil)
      · clear hc15 h17
        intro s3 hc20
        have e := Option.some.inj hc20; subst e
        ((conv=>whnf);repeat((first|refine Ta ?_|refine Tz mix ?_|refine Tc ?_|refine Tb ?_|refine Td rfl ?_|refine Tl ?_|refine sE rfl ?_|refine dG (by kernel_rfl) ?_|fail);(conv=>whnf)))
        exact And.intro (AV.Le.refl _) rfl
theorem c_decomp_fault (p_at : Int) (p_e : Er) (r : Er) (h : m_decomp_fault p_at p_e = some r) : Contract pl 120 [(AV.int .i64 p_at), (AV.err p_e)] [] (AV.err r) [] := by
  refine contract_of .z Tryd.func120 rfl (by kernel_rfl) ?_
  have e := Option.some.inj h; subst e
  ((conv=>whnf);repeat((first|refine Ta ?_|refine Tz mix ?_|refine Tc ?_|refine Tb ?_|refine Td rfl ?_|refine Tl ?_|refine sE rfl ?_|refine dG (by kernel_rfl) ?_|fail);(conv=>whnf)))
  exact And.intro (AV.Le.err_box (AV.Le.refl _)) rfl
theorem c_utf_Right (p_r : Int) (r : Bool) (h : m_utf_Right p_r = some r) : Contract pl 126 [(AV.int .i32 p_r)] [] (AV.bool r) [] := by
  refine contract_of .z Tryd.func126 rfl (by kernel_rfl) ?_
  ((conv=>whnf);repeat((first|refine Ta ?_|refine Tz mix ?_|refine Tc ?_|refine Tb ?_|refine Td rfl ?_|refine Tl ?_|refine sE rfl ?_|refine dG (by kernel_rfl) ?_|fail);(conv=>whnf)))
  refine br_b rfl h (fun c1 h => ?_) (fun c1 h => ?_)
  · ((conv=>whnf);repeat((first|refine Ta ?_|refine Tz mix ?_|refine Tc ?_|refine Tb ?_|refine Td rfl ?_|refine Tl ?_|refine sE rfl ?_|refine dG (by kernel_rfl) ?_|fail);(conv=>whnf)))
    refine br_b rfl h (fun c2 h => ?_) (fun c2 h => ?_)
    · ((conv=>whnf);repeat((first|refine Ta ?_|refine Tz mix ?_|refine Tc ?_|refine Tb ?_|refine Td rfl ?_|refine Tl ?_|refine sE rfl ?_|refine dG (by kernel_rfl) ?_|fail);(conv=>whnf)))
      refine br_b rfl h (fun c3 h => ?_) (fun c3 h => ?_)
      · have e := Option.some.inj h; subst e
        ((conv=>whnf);repeat((first|refine Ta ?_|refine Tz mix ?_|refine Tc ?_|refine Tb ?_|refine Td rfl ?_|refine Tl ?_|refine sE rfl ?_|refine dG (by kernel_rfl) ?_|fail);(conv=>whnf)))
        exact And.intro (AV.Le.refl _) rfl
      · have e := Option.some.inj h; subst e
        ((conv=>whnf);repeat((first|refine Ta ?_|refine Tz mix ?_|refine Tc ?_|refine Tb ?_|refine Td rfl ?_|refine Tl ?_|refine sE rfl ?_|refine dG (by kernel_rfl) ?_|fail);(conv=>whnf)))
        exact And.intro (AV.Le.refl _) rfl
    · have e := Option.some.inj h; subst e
      ((conv=>whnf);repeat((first|refine Ta ?_|refine Tz mix ?_|refine Tc ?_|refine Tb ?_|refine Td rfl ?_|refine Tl ?_|refine sE rfl ?_|refine dG (by kernel_rfl) ?_|fail);(conv=>whnf)))
      exact And.intro (AV.Le.refl _) rfl
  · have e := Option.some.inj h; subst e
    ((conv=>whnf);repeat((first|refine Ta ?_|refine Tz mix ?_|refine Tc ?_|refine Tb ?_|refine Td rfl ?_|refine Tl ?_|refine sE rfl ?_|refine dG (by kernel_rfl) ?_|fail);(conv=>whnf)))
    exact And.intro (AV.Le.refl _) rfl
theorem c_decomp_rowError (p_t : T_api_Norm) (p_i : Int) (r : Er) (h : m_decomp_rowError p_t p_i = some r) : Contract pl 124 [(e_api_Norm p_t), (AV.int .i64 p_i)] [] (AV.err r) [] := by
  refine contract_of (.t false .z (.t false .z (.t false (.t true .z .z) (.t false (.t true .z .z) (.t false (.t true .z .z) (.t true (.t false .z (.t false (.t false (.t false .z (.t false .z (.t false (.t false (.t false .z (.t true .z .z)) .z) .z))) .z) .z)) .z)))))) Tryd.func124 rfl (by kernel_rfl) ?_
  ((conv=>whnf);repeat((first|refine Ta ?_|refine Tz mix ?_|refine Tc ?_|refine Tb ?_|refine Td rfl ?_|refine Tl ?_|refine sE rfl ?_|refine dG (by kernel_rfl) ?_|fail);(conv=>whnf)))
  refine grd2 rfl rfl h (fun h => ?_)
  ((conv=>whnf);repeat((first|refine Ta ?_|refine Tz mix ?_|refine Tc ?_|refine Tb ?_|refine Td rfl ?_|refine Tl ?_|refine sE rfl ?_|refine dG (by kernel_rfl) ?_|fail);(conv=>whnf)))
  refine bnd h (fun x22 h22 h => ?_)
  refine cut_at (fun s1 : Bool => mkF 76 [(1, (.int .i64 p_i)), (2, (.mp 0 0 0)), (5, (.mp 1 0 0)), (22, (.bool s1))] [some ⟨3, 40, (.vals [(e_api_Norm p_t)]), false, false⟩, some ⟨2, 103, (.vals [(e_api_Row (p_t.f_Rows.getD (p_i.toNat) d_api_Row))]), false, false⟩]) (fun s1 : Bool => m_decomp_rowError_K2 p_t p_i s1 = some r) ?_ ?_
  · intro Kn22 hn22
    ((conv=>whnf);repeat((first|refine Ta ?_|refine Tz mix ?_|refine Tc ?_|refine Tb ?_|refine Td rfl ?_|refine Tl ?_|refine sE rfl ?_|refine dG (by kernel_rfl) ?_|fail);(conv=>whnf)))
    refine bnd h22 (fun y20 hy20 h22 => ?_)
    refine Or.inl ⟨_, c_utf_Right _ _ hy20, rfl, ?_⟩
    ((conv=>whnf);repeat((first|refine Ta ?_|refine Tz mix ?_|refine Tc ?_|refine Tb ?_|refine Td rfl ?_|refine Tl ?_|refine sE rfl ?_|refine dG (by kernel_rfl) ?_|fail);(conv=>whnf)))
    refine br_b rfl h22 (fun c23 h22 => ?_) (fun c23 h22 => ?_)
    · have e := Option.some.inj h22; subst e
      ((conv=>whnf);repeat((first|refine Ta ?_|refine Tz mix ?_|refine Tc ?_|refine Tb ?_|refine Td rfl ?_|refine Tl ?_|refine sE rfl ?_|refine dG (by kernel_rfl) ?_|fail);(conv=>whnf)))
      exact hn22 _ true h (weak_gen [0, 1] rfl rfl (storeLe.cons rfl (objLe.mk id id (rowLe_vals (valsLe.cons (cellsLe_refl rfl) valsLe.nil))) (storeLe.cons rfl (objLe.mk id id (rowLe_vals (valsLe.cons (cellsLe_refl rfl) valsLe.nil))) storeLe.nil)) (slotsLe.cons (And.intro rfl (AV.Le.refl _)) (slotsLe.cons (And.intro rfl (AV.Le.refl _)) (slotsLe.cons (And.intro rfl (AV.Le.refl _)) (slotsLe.cons (And.intro rfl (AV.Le.refl _)) slotsLe.nil)))))
    · ((conv=>whnf);repeat((first|refine Ta ?_|refine Tz mix ?_|refine Tc ?_|refine Tb ?_|refine Td rfl ?_|refine Tl ?_|refine sE rfl ?_|refine dG (by kernel_rfl) ?_|fail);(conv=>whnf)))
      refine bnd h22 (fun y21 hy21 h22 => ?_)
      refine Or.inl ⟨_, c_decomp_hangul _ _ hy21, rfl, ?_⟩
      have e := Option.some.inj h22; subst e
      ((conv=>whnf);repeat((first|refine Ta ?_|refine Tz mix ?_|refine Tc ?_|refine Tb ?_|refine Td rfl ?_|refine Tl ?_|refine sE rfl ?_|refine dG (by kernel_rfl) ?_|fail);(conv=>whnf)))
      exact hn22 _ (y21 != (0 : Int)) h (weak_gen [0, 1] rfl rfl (storeLe.cons rfl (objLe.mk id id (rowLe_vals (valsLe.cons (cellsLe_refl rfl) valsLe.nil))) (storeLe.cons rfl (objLe.mk id id (rowLe_vals (valsLe.cons (cellsLe_refl rfl) valsLe.nil))) storeLe.nil)) (slotsLe.cons (And.intro rfl (AV.Le.refl _)) (slotsLe.cons (And.intro rfl (AV.Le.refl _)) (slotsLe.cons (And.intro rfl (AV.Le.refl _)) (slotsLe.cons (And.intro rfl (AV.Le.refl _)) slotsLe.nil)))))
  · clear h h22
    intro s1 hc24
    ((conv=>whnf);repeat((first|refine Ta ?_|refine Tz mix ?_|refine Tc ?_|refine Tb ?_|refine Td rfl ?_|refine Tl ?_|refine sE rfl ?_|refine dG (by kernel_rfl) ?_|fail);(conv=>whnf)))
    refine br_b rfl hc24 (fun c25 hc24 => ?_) (fun c25 hc24 => ?_)
    · have e := Option.some.inj hc24; subst e
      ((conv=>whnf);repeat((first|refine Ta ?_|refine Tz mix ?_|refine Tc ?_|refine Tb ?_|refine Td rfl ?_|refine Tl ?_|refine sE rfl ?_|refine dG (by kernel_rfl) ?_|fail);(conv=>whnf)))
      exact And.intro (AV.Le.refl _) rfl
    · ((conv=>whnf);repeat((first|refine Ta ?_|refine Tz mix ?_|refine Tc ?_|refine Tb ?_|refine Td rfl ?_|refine Tl ?_|refine sE rfl ?_|refine dG (by kernel_rfl) ?_|fail);(conv=>whnf)))
      refine bnd hc24 (fun x26 h26 hc24 => ?_)
      refine cut_at (fun s3 : Bool => mkF 76 [(5, (.mp 0 0 0)), (37, (.bool s3))] [some ⟨2, 103, (.vals [(e_api_Row (p_t.f_Rows.getD (p_i.toNat) d_api_Row))]), false, false⟩]) (fun s3 : Bool => m_decomp_rowError_K4 p_t p_i s3 = some r) ?_ ?_
      · intro Kn26 hn26
        ((conv=>whnf);repeat((first|refine Ta ?_|refine Tz mix ?_|refine Tc ?_|refine Tb ?_|refine Td rfl ?_|refine Tl ?_|refine sE rfl ?_|refine dG (by kernel_rfl) ?_|fail);(conv=>whnf)))
        refine br_b rfl h26 (fun c27 h26 => ?_) (fun c27 h26 => ?_)
        · ((conv=>whnf);repeat((first|refine Ta ?_|refine Tz mix ?_|refine Tc ?_|refine Tb ?_|refine Td rfl ?_|refine Tl ?_|refine sE rfl ?_|refine dG (by kernel_rfl) ?_|fail);(conv=>whnf)))
          refine grd2 rfl rfl h26 (fun h26 => ?_)
          have e := Option.some.inj h26; subst e
          ((conv=>whnf);repeat((first|refine Ta ?_|refine Tz mix ?_|refine Tc ?_|refine Tb ?_|refine Td rfl ?_|refine Tl ?_|refine sE rfl ?_|refine dG (by kernel_rfl) ?_|fail);(conv=>whnf)))
          exact hn26 _ (decide ((p_t.f_Rows.getD (p_i.toNat) d_api_Row).f_From ≤ (p_t.f_Rows.getD ((IntKind.wrap .i64 (p_i - (1 : Int))).toNat) d_api_Row).f_From)) hc24 (weak_gen [1] rfl rfl (storeLe.cons rfl (objLe.mk id id (rowLe_vals (valsLe.cons (cellsLe_refl rfl) valsLe.nil))) storeLe.nil) (slotsLe.cons (And.intro rfl (AV.Le.refl _)) (slotsLe.cons (And.intro rfl (AV.Le.refl _)) slotsLe.nil)))
        · have e := Option.some.inj h26; subst e
          ((conv=>whnf);repeat((first|refine Ta ?_|refine Tz mix ?_|refine Tc ?_|refine Tb ?_|refine Td rfl ?_|refine Tl ?_|refine sE rfl ?_|refine dG (by kernel_rfl) ?_|fail);(conv=>whnf)))
          exact hn26 _ false hc24 (weak_gen [1] rfl rfl (storeLe.cons rfl (objLe.mk id id (rowLe_vals (valsLe.cons (cellsLe_refl rfl) valsLe.nil))) storeLe.nil) (slotsLe.cons (And.intro rfl (AV.Le.refl _)) (slotsLe.cons (And.intro rfl (AV.Le.refl _)) slotsLe.nil)))
      · clear hc24 h26
        intro s3 hc28
        ((conv=>whnf);repeat((first|refine Ta ?_|refine Tz mix ?_|refine Tc ?_|refine Tb ?_|refine Td rfl ?_|refine Tl ?_|refine sE rfl ?_|refine dG (by kernel_rfl) ?_|fail);(conv=>whnf)))
        refine br_b rfl hc28 (fun c29 hc28 => ?_) (fun c29 hc28 => ?_)
        · have e := Option.some.inj hc28; subst e
          ((conv=>whnf);repeat((first|refine Ta ?_|refine Tz mix ?_|refine Tc ?_|refine Tb ?_|refine Td rfl ?_|refine Tl ?_|refine sE rfl ?_|refine dG (by kernel_rfl) ?_|fail);(conv=>whnf)))
          exact And.intro (AV.Le.refl _) rfl
        · ((conv=>whnf);repeat((first|refine Ta ?_|refine Tz mix ?_|refine Tc ?_|refine Tb ?_|refine Td rfl ?_|refine Tl ?_|refine sE rfl ?_|refine dG (by kernel_rfl) ?_|fail);(conv=>whnf)))
          refine bnd hc28 (fun x30 h30 hc28 => ?_)
          refine cut_at (fun s5 : Bool => mkF 76 [(5, (.mp 0 0 0)), (57, (.bool s5))] [some ⟨2, 103, (.vals [(e_api_Row (p_t.f_Rows.getD (p_i.toNat) d_api_Row))]), false, false⟩]) (fun s5 : Bool => m_decomp_rowError_K6 p_t p_i s5 = some r) ?_ ?_
          · intro Kn30 hn30
            ((conv=>whnf);repeat((first|refine Ta ?_|refine Tz mix ?_|refine Tc ?_|refine Tb ?_|refine Td rfl ?_|refine Tl ?_|refine sE rfl ?_|refine dG (by kernel_rfl) ?_|fail);(conv=>whnf)))
            refine br_b rfl h30 (fun c31 h30 => ?_) (fun c31 h30 => ?_)
            · have e := Option.some.inj h30; subst e
              ((conv=>whnf);repeat((first|refine Ta ?_|refine Tz mix ?_|refine Tc ?_|refine Tb ?_|refine Td rfl ?_|refine Tl ?_|refine sE rfl ?_|refine dG (by kernel_rfl) ?_|fail);(conv=>whnf)))
              exact hn30 _ true hc28 (weak_gen [0] rfl rfl (storeLe.cons rfl (objLe.mk id id (rowLe_vals (valsLe.cons (cellsLe_refl rfl) valsLe.nil))) storeLe.nil) (slotsLe.cons (And.intro rfl (AV.Le.refl _)) (slotsLe.cons (And.intro rfl (AV.Le.refl _)) slotsLe.nil)))
            · ((conv=>whnf);repeat((first|refine Ta ?_|refine Tz mix ?_|refine Tc ?_|refine Tb ?_|refine Td rfl ?_|refine Tl ?_|refine sE rfl ?_|refine dG (by kernel_rfl) ?_|fail);(conv=>whnf)))
              refine br_b rfl h30 (fun c32 h30 => ?_) (fun c32 h30 => ?_)
              · have e := Option.some.inj h30; subst e
                ((conv=>whnf);repeat((first|refine Ta ?_|refine Tz mix ?_|refine Tc ?_|refine Tb ?_|refine Td rfl ?_|refine Tl ?_|refine sE rfl ?_|refine dG (by kernel_rfl) ?_|fail);(conv=>whnf)))
                exact hn30 _ true hc28 (weak_gen [0] rfl rfl (storeLe.cons rfl (objLe.mk id id (rowLe_vals (valsLe.cons (cellsLe_refl rfl) valsLe.nil))) storeLe.nil) (slotsLe.cons (And.intro rfl (AV.Le.refl _)) (slotsLe.cons (And.intro rfl (AV.Le.refl _)) slotsLe.nil)))
              · ((conv=>whnf);repeat((first|refine Ta ?_|refine Tz mix ?_|refine Tc ?_|refine Tb ?_|refine Td rfl ?_|refine Tl ?_|refine sE rfl ?_|refine dG (by kernel_rfl) ?_|fail);(conv=>whnf)))
                refine grd2 rfl rfl h30 (fun h30 => ?_)
                have e := Option.some.inj h30; subst e
                ((conv=>whnf);repeat((first|refine Ta ?_|refine Tz mix ?_|refine Tc ?_|refine Tb ?_|refine Td rfl ?_|refine Tl ?_|refine sE rfl ?_|refine dG (by kernel_rfl) ?_|fail);(conv=>whnf)))
                exact hn30 _ (decide (((p_t.f_Rows.getD (p_i.toNat) d_api_Row).f_To.getD 0 0) ≥ (p_t.f_Rows.getD (p_i.toNat) d_api_Row).f_From)) hc28 (weak_gen [0] rfl rfl (storeLe.cons rfl (objLe.mk id id (rowLe_vals (valsLe.cons (cellsLe_refl rfl) valsLe.nil))) storeLe.nil) (slotsLe.cons (And.intro rfl (AV.Le.refl _)) (slotsLe.cons (And.intro rfl (AV.Le.refl _)) slotsLe.nil)))
          · clear hc28 h30
            intro s5 hc33
            ((conv=>whnf);repeat((first|refine Ta ?_|refine Tz mix ?_|refine Tc ?_|refine Tb ?_|refine Td rfl ?_|refine Tl ?_|refine sE rfl ?_|refine dG (by kernel_rfl) ?_|fail);(conv=>whnf)))
            refine br_b rfl hc33 (fun c34 hc33 => ?_) (fun c34 hc33 => ?_)
            · have e := Option.some.inj hc33; subst e
              ((conv=>whnf);repeat((first|refine Ta ?_|refine Tz mix ?_|refine Tc ?_|refine Tb ?_|refine Td rfl ?_|refine Tl ?_|refine sE rfl ?_|refine dG (by kernel_rfl) ?_|fail);(conv=>whnf)))
              exact And.intro (AV.Le.refl _) rfl
            · ((conv=>whnf);repeat((first|refine Ta ?_|refine Tz mix ?_|refine Tc ?_|refine Tb ?_|refine Td rfl ?_|refine Tl ?_|refine sE rfl ?_|refine dG (by kernel_rfl) ?_|fail);(conv=>whnf)))
              refine bnd hc33 (fun x35 h35 hc33 => ?_)
              refine cut_at (fun s7 : Unit => mkF 76 [] []) (fun s7 : Unit => some Er.nil = some r) ?_ ?_
              · intro Kn35 hn35
                ((conv=>whnf);repeat((first|refine Ta ?_|refine Tz mix ?_|refine Tc ?_|refine Tb ?_|refine Td rfl ?_|refine Tl ?_|refine sE rfl ?_|refine dG (by kernel_rfl) ?_|fail);(conv=>whnf)))
                refine loop_iter (fun s10 : Int => mkF 76 [(60, (e_L_i32 ((p_t.f_Rows.getD (p_i.toNat) d_api_Row).f_To))), (61, (.int .i64 (((p_t.f_Rows.getD (p_i.toNat) d_api_Row).f_To.length : Nat) : Int))), (62, (.int .i64 s10))] []) h35 (weak_gen [] rfl rfl storeLe.nil (slotsLe.cons (And.intro rfl (AV.Le.refl _)) (slotsLe.cons (And.intro rfl (AV.Le.refl _)) (slotsLe.cons (And.intro rfl (AV.Le.refl _)) slotsLe.nil)))) ?_
                intro k12 s10 st12 Kn12 hn12 h12_ hs12
                ((conv=>whnf);repeat((first|refine Ta ?_|refine Tz mix ?_|refine Tc ?_|refine Tb ?_|refine Td rfl ?_|refine Tl ?_|refine sE rfl ?_|refine dG (by kernel_rfl) ?_|fail);(conv=>whnf)))
                refine br_b rfl h12_ (fun c36 h12_ => ?_) (fun c36 h12_ => ?_)
                · ((conv=>whnf);repeat((first|refine Ta ?_|refine Tz mix ?_|refine Tc ?_|refine Tb ?_|refine Td rfl ?_|refine Tl ?_|refine sE rfl ?_|refine dG (by kernel_rfl) ?_|fail);(conv=>whnf)))
                  refine grd2 rfl rfl h12_ (fun h12_ => ?_)
                  ((conv=>whnf);repeat((first|refine Ta ?_|refine Tz mix ?_|refine Tc ?_|refine Tb ?_|refine Td rfl ?_|refine Tl ?_|refine sE rfl ?_|refine dG (by kernel_rfl) ?_|fail);(conv=>whnf)))
                  refine bnd h12_ (fun x37 h37 h12_ => ?_)
                  refine cut_at (fun s13 : Bool => mkF 76 [(60, (e_L_i32 ((p_t.f_Rows.getD (p_i.toNat) d_api_Row).f_To))), (61, (.int .i64 (((p_t.f_Rows.getD (p_i.toNat) d_api_Row).f_To.length : Nat) : Int))), (62, (.int .i64 s10)), (73, (.bool s13))] []) (fun s13 : Bool => m_decomp_rowError_K14 s10 s13 = some st12) ?_ ?_
                  · intro Kn37 hn37
                    ((conv=>whnf);repeat((first|refine Ta ?_|refine Tz mix ?_|refine Tc ?_|refine Tb ?_|refine Td rfl ?_|refine Tl ?_|refine sE rfl ?_|refine dG (by kernel_rfl) ?_|fail);(conv=>whnf)))
                    refine bnd h37 (fun y15 hy15 h37 => ?_)
                    refine Or.inl ⟨_, c_utf_Right _ _ hy15, rfl, ?_⟩
                    ((conv=>whnf);repeat((first|refine Ta ?_|refine Tz mix ?_|refine Tc ?_|refine Tb ?_|refine Td rfl ?_|refine Tl ?_|refine sE rfl ?_|refine dG (by kernel_rfl) ?_|fail);(conv=>whnf)))
                    refine br_b rfl h37 (fun c38 h37 => ?_) (fun c38 h37 => ?_)
                    · have e := Option.some.inj h37; subst e
                      ((conv=>whnf);repeat((first|refine Ta ?_|refine Tz mix ?_|refine Tc ?_|refine Tb ?_|refine Td rfl ?_|refine Tl ?_|refine sE rfl ?_|refine dG (by kernel_rfl) ?_|fail);(conv=>whnf)))
                      exact hn37 _ true h12_ (weak_gen [] rfl rfl storeLe.nil (slotsLe.cons (And.intro rfl (AV.Le.refl _)) (slotsLe.cons (And.intro rfl (AV.Le.refl _)) (slotsLe.cons (And.intro rfl (AV.Le.refl _)) (slotsLe.cons (And.intro rfl (AV.Le.refl _)) slotsLe.nil)))))
                    · ((conv=>whnf);repeat((first|refine Ta ?_|refine Tz mix ?_|refine Tc ?_|refine Tb ?_|refine Td rfl ?_|refine Tl ?_|refine sE rfl ?_|refine dG (by kernel_rfl) ?_|fail);(conv=>whnf)))
                      refine bnd h37 (fun y16 hy16 h37 => ?_)
                      refine Or.inl ⟨_, c_decomp_hangul _ _ hy16, rfl, ?_⟩
                      have e := Option.some.inj h37; subst e
                      ((conv=>whnf);repeat((first|refine Ta ?_|refine Tz mix ?_|refine Tc ?_|refine Tb ?_|refine Td rfl ?_|refine Tl ?_|refine sE rfl ?_|refine dG (by kernel_rfl) ?_|fail);(conv=>whnf)))
                      exact hn37 _ (y16 != (0 : Int)) h12_ (weak_gen [] rfl rfl storeLe.nil (slotsLe.cons (And.intro rfl (AV.Le.refl _)) (slotsLe.cons (And.intro rfl (AV.Le.refl _)) (slotsLe.cons (And.intro rfl (AV.Le.refl _)) (slotsLe.cons (And.intro rfl (AV.Le.refl _)) slotsLe.nil)))))
                  · clear h12_ h37
                    intro s13 hc39
                    ((conv=>whnf);repeat((first|refine Ta ?_|refine Tz mix ?_|refine Tc ?_|refine Tb ?_|refine Td rfl ?_|refine Tl ?_|refine sE rfl ?_|refine dG (by kernel_rfl) ?_|fail);(conv=>whnf)))
                    refine br_b rfl hc39 (fun c40 hc39 => ?_) (fun c40 hc39 => ?_)
                    · have e := Option.some.inj hc39; subst e
                      have e := done_out hs12; subst e
                      have e := Option.some.inj hc33; subst e
                      ((conv=>whnf);repeat((first|refine Ta ?_|refine Tz mix ?_|refine Tc ?_|refine Tb ?_|refine Td rfl ?_|refine Tl ?_|refine sE rfl ?_|refine dG (by kernel_rfl) ?_|fail);(conv=>whnf)))
                      exact And.intro (AV.Le.refl _) rfl
                    · have e := Option.some.inj hc39; subst e
                      ((conv=>whnf);repeat((first|refine Ta ?_|refine Tz mix ?_|refine Tc ?_|refine Tb ?_|refine Td rfl ?_|refine Tl ?_|refine sE rfl ?_|refine dG (by kernel_rfl) ?_|fail);(conv=>whnf)))
                      exact hn12 _ (IntKind.wrap .i64 (s10 + (1 : Int))) hs12 (weak_gen [] rfl rfl storeLe.nil (slotsLe.cons (And.intro rfl (AV.Le.refl _)) (slotsLe.cons (And.intro rfl (AV.Le.refl _)) (slotsLe.cons (And.intro rfl (AV.Le.refl _)) slotsLe.nil))))
                · have e := Option.some.inj h12_; subst e
                  have e := done_out hs12; subst e
                  ((conv=>whnf);repeat((first|refine Ta ?_|refine Tz mix ?_|refine Tc ?_|refine Tb ?_|refine Td rfl ?_|refine Tl ?_|refine sE rfl ?_|refine dG (by kernel_rfl) ?_|fail);(conv=>whnf)))
                  exact hn35 _ () hc33 (weak_gen [] rfl rfl storeLe.nil slotsLe.nil)
              · clear hc33 h35
                intro s7 hc41
                have e := Option.some.inj hc41; subst e
                ((conv=>whnf);repeat((first|refine Ta ?_|refine Tz mix ?_|refine Tc ?_|refine Tb ?_|refine Td rfl ?_|refine Tl ?_|refine sE rfl ?_|refine dG (by kernel_rfl) ?_|fail);(conv=>whnf)))
                exact And.intro (AV.Le.err_nil) rfl
theorem c_decomp_rises (p_t : T_api_Norm) (r : Int) (h : m_decomp_rises p_t = some r) : Contract pl 121 [(e_api_Norm p_t)] [] (AV.int .i64 r) [] := by
  refine contract_of (.t false .z (.t false .z (.t true (.t false (.t false (.t false (.t true .z .z) .z) .z) .z) .z))) Tryd.func121 rfl (by kernel_rfl) ?_
  ((conv=>whnf);repeat((first|refine Ta ?_|refine Tz mix ?_|refine Tc ?_|refine Tb ?_|refine Td rfl ?_|refine Tl ?_|refine sE rfl ?_|refine dG (by kernel_rfl) ?_|fail);(conv=>whnf)))
  refine bnd h (fun x11 h11 h => ?_)
  refine cut_at (fun s1 : Int => mkF 18 [(3, (.int .i64 s1))] []) (fun s1 : Int => some s1 = some r) ?_ ?_
  · intro Kn11 hn11
    ((conv=>whnf);repeat((first|refine Ta ?_|refine Tz mix ?_|refine Tc ?_|refine Tb ?_|refine Td rfl ?_|refine Tl ?_|refine sE rfl ?_|refine dG (by kernel_rfl) ?_|fail);(conv=>whnf)))
    refine loop_iter (fun s4 : Int => mkF 18 [(1, (.mp 0 0 0)), (3, (.int .i64 s4))] [some ⟨3, 40, (.vals [(e_api_Norm p_t)]), false, false⟩]) h11 (weak_gen [0] rfl rfl (storeLe.cons rfl (objLe.mk id id (rowLe_vals (valsLe.cons (cellsLe_refl rfl) valsLe.nil))) storeLe.nil) (slotsLe.cons (And.intro rfl (AV.Le.refl _)) (slotsLe.cons (And.intro rfl (AV.Le.refl _)) slotsLe.nil))) ?_
    intro k6 s4 st6 Kn6 hn6 h6_ hs6
    ((conv=>whnf);repeat((first|refine Ta ?_|refine Tz mix ?_|refine Tc ?_|refine Tb ?_|refine Td rfl ?_|refine Tl ?_|refine sE rfl ?_|refine dG (by kernel_rfl) ?_|fail);(conv=>whnf)))
    refine bnd h6_ (fun x12 h12 h6_ => ?_)
    refine cut_at (fun s7 : Bool => mkF 18 [(1, (.mp 0 0 0)), (3, (.int .i64 s4)), (14, (.bool s7))] [some ⟨3, 40, (.vals [(e_api_Norm p_t)]), false, false⟩]) (fun s7 : Bool => m_decomp_rises_K8 s4 s7 = some st6) ?_ ?_
    · intro Kn12 hn12
      ((conv=>whnf);repeat((first|refine Ta ?_|refine Tz mix ?_|refine Tc ?_|refine Tb ?_|refine Td rfl ?_|refine Tl ?_|refine sE rfl ?_|refine dG (by kernel_rfl) ?_|fail);(conv=>whnf)))
      refine br_b rfl h12 (fun c13 h12 => ?_) (fun c13 h12 => ?_)
      · ((conv=>whnf);repeat((first|refine Ta ?_|refine Tz mix ?_|refine Tc ?_|refine Tb ?_|refine Td rfl ?_|refine Tl ?_|refine sE rfl ?_|refine dG (by kernel_rfl) ?_|fail);(conv=>whnf)))
        refine bnd h12 (fun y9 hy9 h12 => ?_)
        refine Or.inl ⟨_, c_decomp_rowError _ _ _ hy9, rfl, ?_⟩
        have e := Option.some.inj h12; subst e
        ((conv=>whnf);repeat((first|refine Ta ?_|refine Tz mix ?_|refine Tc ?_|refine Tb ?_|refine Td rfl ?_|refine Tl ?_|refine sE rfl ?_|refine dG (by kernel_rfl) ?_|fail);(conv=>whnf)))
        exact hn12 _ y9.isNil h6_ (weak_gen [0] rfl rfl (storeLe.cons rfl (objLe.mk id id (rowLe_vals (valsLe.cons (cellsLe_refl rfl) valsLe.nil))) storeLe.nil) (slotsLe.cons (And.intro rfl (AV.Le.refl _)) (slotsLe.cons (And.intro rfl (AV.Le.refl _)) (slotsLe.cons (And.intro rfl (AV.Le.refl _)) slotsLe.nil))))
      · have e := Option.some.inj h12; subst e
        ((conv=>whnf);repeat((first|refine Ta ?_|refine Tz mix ?_|refine Tc ?_|refine Tb ?_|refine Td rfl ?_|refine Tl ?_|refine sE rfl ?_|refine dG (by kernel_rfl) ?_|fail);(conv=>whnf)))
        exact hn12 _ false h6_ (weak_gen [0] rfl rfl (storeLe.cons rfl (objLe.mk id id (rowLe_vals (valsLe.cons (cellsLe_refl rfl) valsLe.nil))) storeLe.nil) (slotsLe.cons (And.intro rfl (AV.Le.refl _)) (slotsLe.cons (And.intro rfl (AV.Le.refl _)) (slotsLe.cons (And.intro rfl (AV.Le.refl _)) slotsLe.nil))))
    · clear h6_ h12
      intro s7 hc14
      ((conv=>whnf);repeat((first|refine Ta ?_|refine Tz mix ?_|refine Tc ?_|refine Tb ?_|refine Td rfl ?_|refine Tl ?_|refine sE rfl ?_|refine dG (by kernel_rfl) ?_|fail);(conv=>whnf)))
      refine br_b rfl hc14 (fun c15 hc14 => ?_) (fun c15 hc14 => ?_)
      · have e := Option.some.inj hc14; subst e
        ((conv=>whnf);repeat((first|refine Ta ?_|refine Tz mix ?_|refine Tc ?_|refine Tb ?_|refine Td rfl ?_|refine Tl ?_|refine sE rfl ?_|refine dG (by kernel_rfl) ?_|fail);(conv=>whnf)))
        exact hn6 _ (IntKind.wrap .i64 (s4 + (1 : Int))) hs6 (weak_gen [0] rfl rfl (storeLe.cons rfl (objLe.mk id id (rowLe_vals (valsLe.cons (cellsLe_refl rfl) valsLe.nil))) storeLe.nil) (slotsLe.cons (And.intro rfl (AV.Le.refl _)) (slotsLe.cons (And.intro rfl (AV.Le.refl _)) slotsLe.nil)))
      · have e := Option.some.inj hc14; subst e
        have e := done_out hs6; subst e
        ((conv=>whnf);repeat((first|refine Ta ?_|refine Tz mix ?_|refine Tc ?_|refine Tb ?_|refine Td rfl ?_|refine Tl ?_|refine sE rfl ?_|refine dG (by kernel_rfl) ?_|fail);(conv=>whnf)))
        exact hn11 _ s4 h (weak_gen [] rfl rfl storeLe.nil (slotsLe.cons (And.intro rfl (AV.Le.refl _)) slotsLe.nil))
  · clear h h11
    intro s1 hc16
    have e := Option.some.inj hc16; subst e
    ((conv=>whnf);repeat((first|refine Ta ?_|refine Tz mix ?_|refine Tc ?_|refine Tb ?_|refine Td rfl ?_|refine Tl ?_|refine sE rfl ?_|refine dG (by kernel_rfl) ?_|fail);(conv=>whnf)))
    exact And.intro (AV.Le.refl _) rfl
theorem c_decomp_has_1 (p_x : T_api_Row) (p_a1 : Int) (r : Bool) (h : m_decomp_has_1 p_x p_a1 = some r) : Contract pl 158 [(e_api_Row p_x), (AV.ip (AV.int .i32 p_a1) 0)] [] (AV.bool r) [] := by
  refine contract_of .z Tryd.func158 rfl (by kernel_rfl) ?_
  have e := Option.some.inj h; subst e
  ((conv=>whnf);repeat((first|refine Ta ?_|refine Tz mix ?_|refine Tc ?_|refine Tb ?_|refine Td rfl ?_|refine Tl ?_|refine sE rfl ?_|refine dG (by kernel_rfl) ?_|fail);(conv=>whnf)))
  exact And.intro (AV.Le.refl _) rfl
theorem c_slices_IndexFunc_api_Row_api_Row_decomp_has_1 (p_s : (List T_api_Row)) (p_f : Int) (r : Int) (h : m_slices_IndexFunc_api_Row_api_Row_decomp_has_1 p_s p_f = some r) : Contract pl 172 [(e_L_api_Row p_s), (AV.fn (.func 158) [] [(AV.ip (AV.int .i32 p_f) 0)])] [] (AV.int .i64 r) [] := by
  refine contract_of (.t false .z (.t true .z .z)) Tryd.func172 rfl (by kernel_rfl) ?_
  ((conv=>whnf);repeat((first|refine Ta ?_|refine Tz mix ?_|refine Tc ?_|refine Tb ?_|refine Td rfl ?_|refine Tl ?_|refine sE rfl ?_|refine dG (by kernel_rfl) ?_|fail);(conv=>whnf)))
  refine bnd h (fun x11 h11 h => ?_)
  refine cut_at (fun s1 : Unit => mkF 19 [] []) (fun s1 : Unit => some (-1 : Int) = some r) ?_ ?_
  · intro Kn11 hn11
    ((conv=>whnf);repeat((first|refine Ta ?_|refine Tz mix ?_|refine Tc ?_|refine Tb ?_|refine Td rfl ?_|refine Tl ?_|refine sE rfl ?_|refine dG (by kernel_rfl) ?_|fail);(conv=>whnf)))
    refine loop_iter (fun s4 : Int => mkF 19 [(0, (e_L_api_Row p_s)), (1, (.fn (.func 158) [] [(.ip (.int .i32 p_f) 0)])), (7, (.int .i64 ((p_s.length : Nat) : Int))), (8, (.int .i64 s4))] []) h11 (weak_gen [] rfl rfl storeLe.nil (slotsLe.cons (And.intro rfl (AV.Le.refl _)) (slotsLe.cons (And.intro rfl (AV.Le.refl _)) (slotsLe.cons (And.intro rfl (AV.Le.refl _)) (slotsLe.cons (And.intro rfl (AV.Le.refl _)) slotsLe.nil))))) ?_
    intro k6 s4 st6 Kn6 hn6 h6_ hs6
    ((conv=>whnf);repeat((first|refine Ta ?_|refine Tz mix ?_|refine Tc ?_|refine Tb ?_|refine Td rfl ?_|refine Tl ?_|refine sE rfl ?_|refine dG (by kernel_rfl) ?_|fail);(conv=>whnf)))
    refine br_b rfl h6_ (fun c12 h6_ => ?_) (fun c12 h6_ => ?_)
    · ((conv=>whnf);repeat((first|refine Ta ?_|refine Tz mix ?_|refine Tc ?_|refine Tb ?_|refine Td rfl ?_|refine Tl ?_|refine sE rfl ?_|refine dG (by kernel_rfl) ?_|fail);(conv=>whnf)))
      refine grd2 rfl rfl h6_ (fun h6_ => ?_)
      ((conv=>whnf);repeat((first|refine Ta ?_|refine Tz mix ?_|refine Tc ?_|refine Tb ?_|refine Td rfl ?_|refine Tl ?_|refine sE rfl ?_|refine dG (by kernel_rfl) ?_|fail);(conv=>whnf)))
      refine bnd h6_ (fun y7 hy7 h6_ => ?_)
      refine Or.inl ⟨_, c_decomp_has_1 _ _ _ hy7, rfl, ?_⟩
      ((conv=>whnf);repeat((first|refine Ta ?_|refine Tz mix ?_|refine Tc ?_|refine Tb ?_|refine Td rfl ?_|refine Tl ?_|refine sE rfl ?_|refine dG (by kernel_rfl) ?_|fail);(conv=>whnf)))
      refine br_b rfl h6_ (fun c13 h6_ => ?_) (fun c13 h6_ => ?_)
      · have e := Option.some.inj h6_; subst e
        have e := done_out hs6; subst e
        have e := Option.some.inj h; subst e
        ((conv=>whnf);repeat((first|refine Ta ?_|refine Tz mix ?_|refine Tc ?_|refine Tb ?_|refine Td rfl ?_|refine Tl ?_|refine sE rfl ?_|refine dG (by kernel_rfl) ?_|fail);(conv=>whnf)))
        exact And.intro (AV.Le.refl _) rfl
      · have e := Option.some.inj h6_; subst e
        ((conv=>whnf);repeat((first|refine Ta ?_|refine Tz mix ?_|refine Tc ?_|refine Tb ?_|refine Td rfl ?_|refine Tl ?_|refine sE rfl ?_|refine dG (by kernel_rfl) ?_|fail);(conv=>whnf)))
        exact hn6 _ (IntKind.wrap .i64 (s4 + (1 : Int))) hs6 (weak_gen [] rfl rfl storeLe.nil (slotsLe.cons (And.intro rfl (AV.Le.refl _)) (slotsLe.cons (And.intro rfl (AV.Le.refl _)) (slotsLe.cons (And.intro rfl (AV.Le.refl _)) (slotsLe.cons (And.intro rfl (AV.Le.refl _)) slotsLe.nil)))))
    · have e := Option.some.inj h6_; subst e
      have e := done_out hs6; subst e
      ((conv=>whnf);repeat((first|refine Ta ?_|refine Tz mix ?_|refine Tc ?_|refine Tb ?_|refine Td rfl ?_|refine Tl ?_|refine sE rfl ?_|refine dG (by kernel_rfl) ?_|fail);(conv=>whnf)))
      exact hn11 _ () h (weak_gen [] rfl rfl storeLe.nil slotsLe.nil)
  · clear h h11
    intro s1 hc14
    have e := Option.some.inj hc14; subst e
    ((conv=>whnf);repeat((first|refine Ta ?_|refine Tz mix ?_|refine Tc ?_|refine Tb ?_|refine Td rfl ?_|refine Tl ?_|refine sE rfl ?_|refine dG (by kernel_rfl) ?_|fail);(conv=>whnf)))
    exact And.intro (AV.Le.refl _) rfl
theorem c_slices_ContainsFunc_api_Row_api_Row_decomp_has_1 (p_s : (List T_api_Row)) (p_f : Int) (r : Bool) (h : m_slices_ContainsFunc_api_Row_api_Row_decomp_has_1 p_s p_f = some r) : Contract pl 157 [(e_L_api_Row p_s), (AV.fn (.func 158) [] [(AV.ip (AV.int .i32 p_f) 0)])] [] (AV.bool r) [] := by
  refine contract_of .z Tryd.func157 rfl (by kernel_rfl) ?_
  ((conv=>whnf);repeat((first|refine Ta ?_|refine Tz mix ?_|refine Tc ?_|refine Tb ?_|refine Td rfl ?_|refine Tl ?_|refine sE rfl ?_|refine dG (by kernel_rfl) ?_|fail);(conv=>whnf)))
  refine bnd h (fun y1 hy1 h => ?_)
  refine Or.inl ⟨_, c_slices_IndexFunc_api_Row_api_Row_decomp_has_1 _ _ _ hy1, rfl, ?_⟩
  have e := Option.some.inj h; subst e
  ((conv=>whnf);repeat((first|refine Ta ?_|refine Tz mix ?_|refine Tc ?_|refine Tb ?_|refine Td rfl ?_|refine Tl ?_|refine sE rfl ?_|refine dG (by kernel_rfl) ?_|fail);(conv=>whnf)))
  exact And.intro (AV.Le.refl _) rfl
theorem c_decomp_has (p_t : T_api_Norm) (p_r : Int) (r : Bool) (h : m_decomp_has p_t p_r = some r) : Contract pl 122 [(e_api_Norm p_t), (AV.int .i32 p_r)] [] (AV.bool r) [] := by
  refine contract_of .z Tryd.func122 rfl (by kernel_rfl) ?_
  ((conv=>whnf);repeat((first|refine Ta ?_|refine Tz mix ?_|refine Tc ?_|refine Tb ?_|refine Td rfl ?_|refine Tl ?_|refine sE rfl ?_|refine dG (by kernel_rfl) ?_|fail);(conv=>whnf)))
  refine bnd h (fun y1 hy1 h => ?_)
  refine Or.inl ⟨_, c_slices_ContainsFunc_api_Row_api_Row_decomp_has_1 _ _ _ hy1, rfl, ?_⟩
  have e := Option.some.inj h; subst e
  ((conv=>whnf);repeat((first|refine Ta ?_|refine Tz mix ?_|refine Tc ?_|refine Tb ?_|refine Td rfl ?_|refine Tl ?_|refine sE rfl ?_|refine dG (by kernel_rfl) ?_|fail);(conv=>whnf)))
  exact And.intro (AV.Le.refl _) rfl
theorem c_decomp_chain (p_t : T_api_Norm) (p_row : Int) (r : Int) (h : m_decomp_chain p_t p_row = some r) : Contract pl 123 [(e_api_Norm p_t), (AV.int .i64 p_row)] [] (AV.int .i64 r) [] := by
  refine contract_of (.t false .z (.t false .z (.t true (.t false (.t false (.t false (.t true .z .z) .z) .z) .z) .z))) Tryd.func123 rfl (by kernel_rfl) ?_
  ((conv=>whnf);repeat((first|refine Ta ?_|refine Tz mix ?_|refine Tc ?_|refine Tb ?_|refine Td rfl ?_|refine Tl ?_|refine sE rfl ?_|refine dG (by kernel_rfl) ?_|fail);(conv=>whnf)))
  refine bnd h (fun x11 h11 h => ?_)
  refine cut_at (fun s1 : Int => mkF 33 [(5, (.int .i64 s1))] []) (fun s1 : Int => some s1 = some r) ?_ ?_
  · intro Kn11 hn11
    ((conv=>whnf);repeat((first|refine Ta ?_|refine Tz mix ?_|refine Tc ?_|refine Tb ?_|refine Td rfl ?_|refine Tl ?_|refine sE rfl ?_|refine dG (by kernel_rfl) ?_|fail);(conv=>whnf)))
    refine loop_iter (fun s4 : Int × Int => mkF 33 [(1, (.int .i64 s4.1)), (2, (.mp 0 0 0)), (5, (.int .i64 s4.2))] [some ⟨3, 40, (.vals [(e_api_Norm p_t)]), false, false⟩]) h11 (weak_gen [0] rfl rfl (storeLe.cons rfl (objLe.mk id id (rowLe_vals (valsLe.cons (cellsLe_refl rfl) valsLe.nil))) storeLe.nil) (slotsLe.cons (And.intro rfl (AV.Le.refl _)) (slotsLe.cons (And.intro rfl (AV.Le.refl _)) (slotsLe.cons (And.intro rfl (AV.Le.refl _)) slotsLe.nil)))) ?_
    intro k6 s4 st6 Kn6 hn6 h6_ hs6
    ((conv=>whnf);repeat((first|refine Ta ?_|refine Tz mix ?_|refine Tc ?_|refine Tb ?_|refine Td rfl ?_|refine Tl ?_|refine sE rfl ?_|refine dG (by kernel_rfl) ?_|fail);(conv=>whnf)))
    refine bnd h6_ (fun x12 h12 h6_ => ?_)
    refine cut_at (fun s7 : Bool => mkF 33 [(1, (.int .i64 s4.1)), (2, (.mp 0 0 0)), (5, (.int .i64 s4.2)), (11, (.bool s7))] [some ⟨3, 40, (.vals [(e_api_Norm p_t)]), false, false⟩]) (fun s7 : Bool => m_decomp_chain_K8 p_t s4 s7 = some st6) ?_ ?_
    · intro Kn12 hn12
      ((conv=>whnf);repeat((first|refine Ta ?_|refine Tz mix ?_|refine Tc ?_|refine Tb ?_|refine Td rfl ?_|refine Tl ?_|refine sE rfl ?_|refine dG (by kernel_rfl) ?_|fail);(conv=>whnf)))
      refine br_b rfl h12 (fun c13 h12 => ?_) (fun c13 h12 => ?_)
      · have e := Option.some.inj h12; subst e
        ((conv=>whnf);repeat((first|refine Ta ?_|refine Tz mix ?_|refine Tc ?_|refine Tb ?_|refine Td rfl ?_|refine Tl ?_|refine sE rfl ?_|refine dG (by kernel_rfl) ?_|fail);(conv=>whnf)))
        exact hn12 _ (decide (s4.2 ≤ (8 : Int))) h6_ (weak_gen [0] rfl rfl (storeLe.cons rfl (objLe.mk id id (rowLe_vals (valsLe.cons (cellsLe_refl rfl) valsLe.nil))) storeLe.nil) (slotsLe.cons (And.intro rfl (AV.Le.refl _)) (slotsLe.cons (And.intro rfl (AV.Le.refl _)) (slotsLe.cons (And.intro rfl (AV.Le.refl _)) (slotsLe.cons (And.intro rfl (AV.Le.refl _)) slotsLe.nil)))))
      · have e := Option.some.inj h12; subst e
        ((conv=>whnf);repeat((first|refine Ta ?_|refine Tz mix ?_|refine Tc ?_|refine Tb ?_|refine Td rfl ?_|refine Tl ?_|refine sE rfl ?_|refine dG (by kernel_rfl) ?_|fail);(conv=>whnf)))
        exact hn12 _ false h6_ (weak_gen [0] rfl rfl (storeLe.cons rfl (objLe.mk id id (rowLe_vals (valsLe.cons (cellsLe_refl rfl) valsLe.nil))) storeLe.nil) (slotsLe.cons (And.intro rfl (AV.Le.refl _)) (slotsLe.cons (And.intro rfl (AV.Le.refl _)) (slotsLe.cons (And.intro rfl (AV.Le.refl _)) (slotsLe.cons (And.intro rfl (AV.Le.refl _)) slotsLe.nil)))))
    · clear h6_ h12
      intro s7 hc14
      ((conv=>whnf);repeat((first|refine Ta ?_|refine Tz mix ?_|refine Tc ?_|refine Tb ?_|refine Td rfl ?_|refine Tl ?_|refine sE rfl ?_|refine dG (by kernel_rfl) ?_|fail);(conv=>whnf)))
      refine br_b rfl hc14 (fun c15 hc14 => ?_) (fun c15 hc14 => ?_)
      · ((conv=>whnf);repeat((first|refine Ta ?_|refine Tz mix ?_|refine Tc ?_|refine Tb ?_|refine Td rfl ?_|refine Tl ?_|refine sE rfl ?_|refine dG (by kernel_rfl) ?_|fail);(conv=>whnf)))
        refine grd2 rfl rfl hc14 (fun hc14 => ?_)
        ((conv=>whnf);repeat((first|refine Ta ?_|refine Tz mix ?_|refine Tc ?_|refine Tb ?_|refine Td rfl ?_|refine Tl ?_|refine sE rfl ?_|refine dG (by kernel_rfl) ?_|fail);(conv=>whnf)))
        refine br_b rfl hc14 (fun c16 hc14 => ?_) (fun c16 hc14 => ?_)
        · have e := Option.some.inj hc14; subst e
          have e := done_out hs6; subst e
          ((conv=>whnf);repeat((first|refine Ta ?_|refine Tz mix ?_|refine Tc ?_|refine Tb ?_|refine Td rfl ?_|refine Tl ?_|refine sE rfl ?_|refine dG (by kernel_rfl) ?_|fail);(conv=>whnf)))
          exact hn11 _ (IntKind.wrap .i64 (s4.2 + (1 : Int))) h (weak_gen [] rfl rfl storeLe.nil (slotsLe.cons (And.intro rfl (AV.Le.refl _)) slotsLe.nil))
        · ((conv=>whnf);repeat((first|refine Ta ?_|refine Tz mix ?_|refine Tc ?_|refine Tb ?_|refine Td rfl ?_|refine Tl ?_|refine sE rfl ?_|refine dG (by kernel_rfl) ?_|fail);(conv=>whnf)))
          refine grd2 rfl rfl hc14 (fun hc14 => ?_)
          ((conv=>whnf);repeat((first|refine Ta ?_|refine Tz mix ?_|refine Tc ?_|refine Tb ?_|refine Td rfl ?_|refine Tl ?_|refine sE rfl ?_|refine dG (by kernel_rfl) ?_|fail);(conv=>whnf)))
          refine grd2 rfl rfl hc14 (fun hc14 => ?_)
          ((conv=>whnf);repeat((first|refine Ta ?_|refine Tz mix ?_|refine Tc ?_|refine Tb ?_|refine Td rfl ?_|refine Tl ?_|refine sE rfl ?_|refine dG (by kernel_rfl) ?_|fail);(conv=>whnf)))
          refine bnd hc14 (fun y9 hy9 hc14 => ?_)
          refine Or.inl ⟨_, c_decomp_find _ _ _ hy9, rfl, ?_⟩
          have e := Option.some.inj hc14; subst e
          ((conv=>whnf);repeat((first|refine Ta ?_|refine Tz mix ?_|refine Tc ?_|refine Tb ?_|refine Td rfl ?_|refine Tl ?_|refine sE rfl ?_|refine dG (by kernel_rfl) ?_|fail);(conv=>whnf)))
          exact hn6 _ (y9, (IntKind.wrap .i64 (s4.2 + (1 : Int)))) hs6 (weak_gen [0] rfl rfl (storeLe.cons rfl (objLe.mk id id (rowLe_vals (valsLe.cons (cellsLe_refl rfl) valsLe.nil))) storeLe.nil) (slotsLe.cons (And.intro rfl (AV.Le.refl _)) (slotsLe.cons (And.intro rfl (AV.Le.refl _)) (slotsLe.cons (And.intro rfl (AV.Le.refl _)) slotsLe.nil))))
      · have e := Option.some.inj hc14; subst e
        have e := done_out hs6; subst e
        ((conv=>whnf);repeat((first|refine Ta ?_|refine Tz mix ?_|refine Tc ?_|refine Tb ?_|refine Td rfl ?_|refine Tl ?_|refine sE rfl ?_|refine dG (by kernel_rfl) ?_|fail);(conv=>whnf)))
        exact hn11 _ s4.2 h (weak_gen [] rfl rfl storeLe.nil (slotsLe.cons (And.intro rfl (AV.Le.refl _)) slotsLe.nil))
  · clear h h11
    intro s1 hc17
    have e := Option.some.inj hc17; subst e
    ((conv=>whnf);repeat((first|refine Ta ?_|refine Tz mix ?_|refine Tc ?_|refine Tb ?_|refine Td rfl ?_|refine Tl ?_|refine sE rfl ?_|refine dG (by kernel_rfl) ?_|fail);(conv=>whnf)))
    exact And.intro (AV.Le.refl _) rfl
theorem c_ranges_may (p_x : T_api_Range) (r : Bool) (h : m_ranges_may p_x = some r) : Contract pl 162 [(e_api_Range p_x)] [] (AV.bool r) [] := by
  refine contract_of .z Tryd.func162 rfl (by kernel_rfl) ?_
  ((conv=>whnf);repeat((first|refine Ta ?_|refine Tz mix ?_|refine Tc ?_|refine Tb ?_|refine Td rfl ?_|refine Tl ?_|refine sE rfl ?_|refine dG (by kernel_rfl) ?_|fail);(conv=>whnf)))
  refine br_b rfl h (fun c1 h => ?_) (fun c1 h => ?_)
  · ((conv=>whnf);repeat((first|refine Ta ?_|refine Tz mix ?_|refine Tc ?_|refine Tb ?_|refine Td rfl ?_|refine Tl ?_|refine sE rfl ?_|refine dG (by kernel_rfl) ?_|fail);(conv=>whnf)))
    refine br_b rfl h (fun c2 h => ?_) (fun c2 h => ?_)
    · ((conv=>whnf);repeat((first|refine Ta ?_|refine Tz mix ?_|refine Tc ?_|refine Tb ?_|refine Td rfl ?_|refine Tl ?_|refine sE rfl ?_|refine dG (by kernel_rfl) ?_|fail);(conv=>whnf)))
      refine br_b rfl h (fun c3 h => ?_) (fun c3 h => ?_)
      · ((conv=>whnf);repeat((first|refine Ta ?_|refine Tz mix ?_|refine Tc ?_|refine Tb ?_|refine Td rfl ?_|refine Tl ?_|refine sE rfl ?_|refine dG (by kernel_rfl) ?_|fail);(conv=>whnf)))
        refine br_b rfl h (fun c4 h => ?_) (fun c4 h => ?_)
        · have e := Option.some.inj h; subst e
          ((conv=>whnf);repeat((first|refine Ta ?_|refine Tz mix ?_|refine Tc ?_|refine Tb ?_|refine Td rfl ?_|refine Tl ?_|refine sE rfl ?_|refine dG (by kernel_rfl) ?_|fail);(conv=>whnf)))
          exact And.intro (AV.Le.refl _) rfl
        · have e := Option.some.inj h; subst e
          ((conv=>whnf);repeat((first|refine Ta ?_|refine Tz mix ?_|refine Tc ?_|refine Tb ?_|refine Td rfl ?_|refine Tl ?_|refine sE rfl ?_|refine dG (by kernel_rfl) ?_|fail);(conv=>whnf)))
          exact And.intro (AV.Le.refl _) rfl
      · have e := Option.some.inj h; subst e
        ((conv=>whnf);repeat((first|refine Ta ?_|refine Tz mix ?_|refine Tc ?_|refine Tb ?_|refine Td rfl ?_|refine Tl ?_|refine sE rfl ?_|refine dG (by kernel_rfl) ?_|fail);(conv=>whnf)))
        exact And.intro (AV.Le.refl _) rfl
    · have e := Option.some.inj h; subst e
      ((conv=>whnf);repeat((first|refine Ta ?_|refine Tz mix ?_|refine Tc ?_|refine Tb ?_|refine Td rfl ?_|refine Tl ?_|refine sE rfl ?_|refine dG (by kernel_rfl) ?_|fail);(conv=>whnf)))
      exact And.intro (AV.Le.refl _) rfl
  · have e := Option.some.inj h; subst e
    ((conv=>whnf);repeat((first|refine Ta ?_|refine Tz mix ?_|refine Tc ?_|refine Tb ?_|refine Td rfl ?_|refine Tl ?_|refine sE rfl ?_|refine dG (by kernel_rfl) ?_|fail);(conv=>whnf)))
    exact And.intro (AV.Le.refl _) rfl
theorem c_ranges_fault (p_at : Int) (p_e : Er) (r : Er) (h : m_ranges_fault p_at p_e = some r) : Contract pl 131 [(AV.int .i64 p_at), (AV.err p_e)] [] (AV.err r) [] := by
  refine contract_of .z Tryd.func131 rfl (by kernel_rfl) ?_
  have e := Option.some.inj h; subst e
  ((conv=>whnf);repeat((first|refine Ta ?_|refine Tz mix ?_|refine Tc ?_|refine Tb ?_|refine Td rfl ?_|refine Tl ?_|refine sE rfl ?_|refine dG (by kernel_rfl) ?_|fail);(conv=>whnf)))
  exact And.intro (AV.Le.err_box (AV.Le.refl _)) rfl
end Go.Proofs.YtjhgaacecfmadaaDoor
