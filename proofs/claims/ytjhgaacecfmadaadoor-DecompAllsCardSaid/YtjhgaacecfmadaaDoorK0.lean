/- Contracts of functions, walked by their models; printed by a program of ours. No condition. -/
import Derived.Test.YtjhgaacecfmadaaDoorM
import Derived.Test.YtjhgaacecfmadaaDoorProg
import Derived.KernelRfl
namespace Go.Proofs.YtjhgaacecfmadaaDoor
open Go Go.SE
set_option linter.unusedVariables false
set_option linter.unusedSimpArgs false
set_option maxRecDepth 10000
set_option maxHeartbeats 2000000
attribute [local irreducible] Contract iter
theorem mix : pl.follows .mixedOrders = true := by kernel_rfl
theorem gOf {α : Type} {c : Prop} [Decidable c] {X : Option α} {r : α} (h : (if c then X else none) = some r) : c := by
  by_cases hc : c
  · exact hc
  · rw [if_neg hc] at h; cases h
theorem lits_u8 : ∀ (l : List Int) (j : Nat), j < l.length → (l.map (AV.int .u8)).getD j .unk = .int .u8 (l.getD j 0) := fun l j hj => by simp [List.getD_eq_getElem?_getD, hj]
theorem c_decomp_fault (p_at : Int) (p_e : Er) (r : Er) (h : m_decomp_fault p_at p_e = some r) : Contract pl 120 [(AV.int .i64 p_at), (AV.err p_e)] [] (AV.err r) [] := by
  refine contract_of .z Tryd.func120 rfl (by kernel_rfl) ?_
  have e := Option.some.inj h; subst e
  ((conv=>whnf);repeat((first|refine Ta ?_|refine Tz mix ?_|refine Tc ?_|refine Tb ?_|refine Td rfl ?_|refine Tl ?_|refine sE rfl ?_|refine dG (by kernel_rfl) ?_|fail);(conv=>whnf)))
  exact And.intro (AV.Le.err_box (AV.Le.refl _)) rfl
theorem c_utf_Right (p_r : Int) (r : Bool) (h : m_utf_Right p_r = some r) : Contract pl 126 [(AV.int .i32 p_r)] [] (AV.bool r) [] := by
  refine contract_of .z Tryd.func126 rfl (by kernel_rfl) ?_
  ((conv=>whnf);repeat((first|refine Ta ?_|refine Tz mix ?_|refine Tc ?_|refine Tb ?_|refine Td rfl ?_|refine Tl ?_|refine sE rfl ?_|refine dG (by kernel_rfl) ?_|fail);(conv=>whnf)))
  refine br_b rfl h (fun c1 h => ?_) (fun c1 h => ?_)
  · ((conv=>whnf);repeat((first|refine Ta ?_|refine Tz mix ?_|refine Tc ?_|refine Tb ?_|refine Td rfl ?_|refine Tl ?_|refine sE rfl ?_|refine dG (by kernel_rfl) ?_|fail);(conv=>whnf)))
    refine br_b rfl h (fun c2 h => ?_) (fun c2 h => ?_)
    · ((conv=>whnf);repeat((first|refine Ta ?_|refine Tz mix ?_|refine Tc ?_|refine Tb ?_|refine Td rfl ?_|refine Tl ?_|refine sE rfl ?_|refine dG (by kernel_rfl) ?_|fail);(conv=>whnf)))
      refine br_b rfl h (fun c3 h => ?_) (fun c3 h => ?_)
      · have e := Option.some.inj h; subst e
        ((conv=>whnf);repeat((first|refine Ta ?_|refine Tz mix ?_|refine Tc ?_|refine Tb ?_|refine Td rfl ?_|refine Tl ?_|refine sE rfl ?_|refine dG (by kernel_rfl) ?_|fail);(conv=>whnf)))
        exact And.intro (AV.Le.refl _) rfl
      · have e := Option.some.inj h; subst e
        ((conv=>whnf);repeat((first|refine Ta ?_|refine Tz mix ?_|refine Tc ?_|refine Tb ?_|refine Td rfl ?_|refine Tl ?_|refine sE rfl ?_|refine dG (by kernel_rfl) ?_|fail);(conv=>whnf)))
        exact And.intro (AV.Le.refl _) rfl
    · have e := Option.some.inj h; subst e
      ((conv=>whnf);repeat((first|refine Ta ?_|refine Tz mix ?_|refine Tc ?_|refine Tb ?_|refine Td rfl ?_|refine Tl ?_|refine sE rfl ?_|refine dG (by kernel_rfl) ?_|fail);(conv=>whnf)))
      exact And.intro (AV.Le.refl _) rfl
  · have e := Option.some.inj h; subst e
    ((conv=>whnf);repeat((first|refine Ta ?_|refine Tz mix ?_|refine Tc ?_|refine Tb ?_|refine Td rfl ?_|refine Tl ?_|refine sE rfl ?_|refine dG (by kernel_rfl) ?_|fail);(conv=>whnf)))
    exact And.intro (AV.Le.refl _) rfl
theorem c_decomp_hangul (p_r : Int) (r : Int) (h : m_decomp_hangul p_r = some r) : Contract pl 86 [(AV.int .i32 p_r)] [] (AV.int .i64 r) [] := by
  refine contract_of (.t false .z (.t false (.t false (.t true .z (.t false .z (.t true .z (.t false .z (.t true .z (.t false .z (.t true .z .z))))))) .z) .z)) Tryd.func86 rfl (by kernel_rfl) ?_
  ((conv=>whnf);repeat((first|refine Ta ?_|refine Tz mix ?_|refine Tc ?_|refine Tb ?_|refine Td rfl ?_|refine Tl ?_|refine sE rfl ?_|refine dG (by kernel_rfl) ?_|fail);(conv=>whnf)))
  refine bnd h (fun x9 h9 h => ?_)
  refine cut_at (fun s1 : Bool => mkF 31 [(0, (.int .i32 p_r)), (3, (.bool s1))] []) (fun s1 : Bool => m_decomp_hangul_K2 p_r s1 = some r) ?_ ?_
  · intro Kn9 hn9
    ((conv=>whnf);repeat((first|refine Ta ?_|refine Tz mix ?_|refine Tc ?_|refine Tb ?_|refine Td rfl ?_|refine Tl ?_|refine sE rfl ?_|refine dG (by kernel_rfl) ?_|fail);(conv=>whnf)))
    refine br_b rfl h9 (fun c10 h9 => ?_) (fun c10 h9 => ?_)
    · have e := Option.some.inj h9; subst e
      ((conv=>whnf);repeat((first|refine Ta ?_|refine Tz mix ?_|refine Tc ?_|refine Tb ?_|refine Td rfl ?_|refine Tl ?_|refine sE rfl ?_|refine dG (by kernel_rfl) ?_|fail);(conv=>whnf)))
      exact hn9 _ (decide (p_r < (4371 : Int))) h (weak_gen [] rfl rfl storeLe.nil (slotsLe.cons (And.intro rfl (AV.Le.refl _)) (slotsLe.cons (And.intro rfl (AV.Le.refl _)) slotsLe.nil)))
    · have e := Option.some.inj h9; subst e
      ((conv=>whnf);repeat((first|refine Ta ?_|refine Tz mix ?_|refine Tc ?_|refine Tb ?_|refine Td rfl ?_|refine Tl ?_|refine sE rfl ?_|refine dG (by kernel_rfl) ?_|fail);(conv=>whnf)))
      exact hn9 _ false h (weak_gen [] rfl rfl storeLe.nil (slotsLe.cons (And.intro rfl (AV.Le.refl _)) (slotsLe.cons (And.intro rfl (AV.Le.refl _)) slotsLe.nil)))
  · clear h h9
    intro s1 hc11
    ((conv=>whnf);repeat((first|refine Ta ?_|refine Tz mix ?_|refine Tc ?_|refine Tb ?_|refine Td rfl ?_|refine Tl ?_|refine sE rfl ?_|refine dG (by kernel_rfl) ?_|fail);(conv=>whnf)))
    refine br_b rfl hc11 (fun c12 hc11 => ?_) (fun c12 hc11 => ?_)
    · have e := Option.some.inj hc11; subst e
      ((conv=>whnf);repeat((first|refine Ta ?_|refine Tz mix ?_|refine Tc ?_|refine Tb ?_|refine Td rfl ?_|refine Tl ?_|refine sE rfl ?_|refine dG (by kernel_rfl) ?_|fail);(conv=>whnf)))
      exact And.intro (AV.Le.refl _) rfl
    · ((conv=>whnf);repeat((first|refine Ta ?_|refine Tz mix ?_|refine Tc ?_|refine Tb ?_|refine Td rfl ?_|refine Tl ?_|refine sE rfl ?_|refine dG (by kernel_rfl) ?_|fail);(conv=>whnf)))
      refine bnd hc11 (fun x13 h13 hc11 => ?_)
      refine cut_at (fun s3 : Bool => mkF 31 [(0, (.int .i32 p_r)), (10, (.bool s3))] []) (fun s3 : Bool => m_decomp_hangul_K4 p_r s3 = some r) ?_ ?_
      · intro Kn13 hn13
        ((conv=>whnf);repeat((first|refine Ta ?_|refine Tz mix ?_|refine Tc ?_|refine Tb ?_|refine Td rfl ?_|refine Tl ?_|refine sE rfl ?_|refine dG (by kernel_rfl) ?_|fail);(conv=>whnf)))
        refine br_b rfl h13 (fun c14 h13 => ?_) (fun c14 h13 => ?_)
        · have e := Option.some.inj h13; subst e
          ((conv=>whnf);repeat((first|refine Ta ?_|refine Tz mix ?_|refine Tc ?_|refine Tb ?_|refine Td rfl ?_|refine Tl ?_|refine sE rfl ?_|refine dG (by kernel_rfl) ?_|fail);(conv=>whnf)))
          exact hn13 _ (decide (p_r < (4470 : Int))) hc11 (weak_gen [] rfl rfl storeLe.nil (slotsLe.cons (And.intro rfl (AV.Le.refl _)) (slotsLe.cons (And.intro rfl (AV.Le.refl _)) slotsLe.nil)))
        · have e := Option.some.inj h13; subst e
          ((conv=>whnf);repeat((first|refine Ta ?_|refine Tz mix ?_|refine Tc ?_|refine Tb ?_|refine Td rfl ?_|refine Tl ?_|refine sE rfl ?_|refine dG (by kernel_rfl) ?_|fail);(conv=>whnf)))
          exact hn13 _ false hc11 (weak_gen [] rfl rfl storeLe.nil (slotsLe.cons (And.intro rfl (AV.Le.refl _)) (slotsLe.cons (And.intro rfl (AV.Le.refl _)) slotsLe.nil)))
      · clear hc11 h13
        intro s3 hc15
        ((conv=>whnf);repeat((first|refine Ta ?_|refine Tz mix ?_|refine Tc ?_|refine Tb ?_|refine Td rfl ?_|refine Tl ?_|refine sE rfl ?_|refine dG (by kernel_rfl) ?_|fail);(conv=>whnf)))
        refine br_b rfl hc15 (fun c16 hc15 => ?_) (fun c16 hc15 => ?_)
        · have e := Option.some.inj hc15; subst e
          ((conv=>whnf);repeat((first|refine Ta ?_|refine Tz mix ?_|refine Tc ?_|refine Tb ?_|refine Td rfl ?_|refine Tl ?_|refine sE rfl ?_|refine dG (by kernel_rfl) ?_|fail);(conv=>whnf)))
          exact And.intro (AV.Le.refl _) rfl
        · ((conv=>whnf);repeat((first|refine Ta ?_|refine Tz mix ?_|refine Tc ?_|refine Tb ?_|refine Td rfl ?_|refine Tl ?_|refine sE rfl ?_|refine dG (by kernel_rfl) ?_|fail);(conv=>whnf)))
          refine bnd hc15 (fun x17 h17 hc15 => ?_)
          refine cut_at (fun s5 : Bool => mkF 31 [(0, (.int .i32 p_r)), (17, (.bool s5))] []) (fun s5 : Bool => m_decomp_hangul_K6 p_r s5 = some r) ?_ ?_
          · intro Kn17 hn17
            ((conv=>whnf);repeat((first|refine Ta ?_|refine Tz mix ?_|refine Tc ?_|refine Tb ?_|refine Td rfl ?_|refine Tl ?_|refine sE rfl ?_|refine dG (by kernel_rfl) ?_|fail);(conv=>whnf)))
            refine br_b rfl h17 (fun c18 h17 => ?_) (fun c18 h17 => ?_)
            · have e := Option.some.inj h17; subst e
              ((conv=>whnf);repeat((first|refine Ta ?_|refine Tz mix ?_|refine Tc ?_|refine Tb ?_|refine Td rfl ?_|refine Tl ?_|refine sE rfl ?_|refine dG (by kernel_rfl) ?_|fail);(conv=>whnf)))
              exact hn17 _ (decide (p_r < (4547 : Int))) hc15 (weak_gen [] rfl rfl storeLe.nil (slotsLe.cons (And.intro rfl (AV.Le.refl _)) (slotsLe.cons (And.intro rfl (AV.Le.refl _)) slotsLe.nil)))
            · have e := Option.some.inj h17; subst e
              ((conv=>whnf);repeat((first|refine Ta ?_|refine Tz mix ?_|refine Tc ?_|refine Tb ?_|refine Td rfl ?_|refine Tl ?_|refine sE rfl ?_|refine dG (by kernel_rfl) ?_|fail);(conv=>whnf)))
              exact hn17 _ false hc15 (weak_gen [] rfl rfl storeLe.nil (slotsLe.cons (And.intro rfl (AV.Le.refl _)) (slotsLe.cons (And.intro rfl (AV.Le.refl _)) slotsLe.nil)))
          · clear hc15 h17
            intro s5 hc19
            ((conv=>whnf);repeat((first|refine Ta ?_|refine Tz mix ?_|refine Tc ?_|refine Tb ?_|refine Td rfl ?_|refine Tl ?_|refine sE rfl ?_|refine dG (by kernel_rfl) ?_|fail);(conv=>whnf)))
            refine br_b rfl hc19 (fun c20 hc19 => ?_) (fun c20 hc19 => ?_)
            · have e := Option.some.inj hc19; subst e
              ((conv=>whnf);repeat((first|refine Ta ?_|refine Tz mix ?_|refine Tc ?_|refine Tb ?_|refine Td rfl ?_|refine Tl ?_|refine sE rfl ?_|refine dG (by kernel_rfl) ?_|fail);(conv=>whnf)))
              exact And.intro (AV.Le.refl _) rfl
            · ((conv=>whnf);repeat((first|refine Ta ?_|refine Tz mix ?_|refine Tc ?_|refine Tb ?_|refine Td rfl ?_|refine Tl ?_|refine sE rfl ?_|refine dG (by kernel_rfl) ?_|fail);(conv=>whnf)))
              refine bnd hc19 (fun x21 h21 hc19 => ?_)
              refine cut_at (fun s7 : Bool => mkF 31 [(24, (.bool s7))] []) (fun s7 : Bool => m_decomp_hangul_K8 s7 = some r) ?_ ?_
              · intro Kn21 hn21
                ((conv=>whnf);repeat((first|refine Ta ?_|refine Tz mix ?_|refine Tc ?_|refine Tb ?_|refine Td rfl ?_|refine Tl ?_|refine sE rfl ?_|refine dG (by kernel_rfl) ?_|fail);(conv=>whnf)))
                refine br_b rfl h21 (fun c22 h21 => ?_) (fun c22 h21 => ?_)
                · have e := Option.some.inj h21; subst e
                  ((conv=>whnf);repeat((first|refine Ta ?_|refine Tz mix ?_|refine Tc ?_|refine Tb ?_|refine Td rfl ?_|refine Tl ?_|refine sE rfl ?_|refine dG (by kernel_rfl) ?_|fail);(conv=>whnf)))
                  exact hn21 _ (decide (p_r < (55204 : Int))) hc19 (weak_gen [] rfl rfl storeLe.nil (slotsLe.cons (And.intro rfl (AV.Le.refl _)) slotsLe.nil))
                · have e := Option.some.inj h21; subst e
                  ((conv=>whnf);repeat((first|refine Ta ?_|refine Tz mix ?_|refine Tc ?_|refine Tb ?_|refine Td rfl ?_|refine Tl ?_|refine sE rfl ?_|refine dG (by kernel_rfl) ?_|fail);(conv=>whnf)))
                  exact hn21 _ false hc19 (weak_gen [] rfl rfl storeLe.nil (slotsLe.cons (And.intro rfl (AV.Le.refl _)) slotsLe.nil))
              · clear hc19 h21
                intro s7 hc23
                ((conv=>whnf);repeat((first|refine Ta ?_|refine Tz mix ?_|refine Tc ?_|refine Tb ?_|refine Td rfl ?_|refine Tl ?_|refine sE rfl ?_|refine dG (by kernel_rfl) ?_|fail);(conv=>whnf)))
                refine br_b rfl hc23 (fun c24 hc23 => ?_) (fun c24 hc23 => ?_)
                · have e := Option.some.inj hc23; subst e
                  ((conv=>whnf);repeat((first|refine Ta ?_|refine Tz mix ?_|refine Tc ?_|refine Tb ?_|refine Td rfl ?_|refine Tl ?_|refine sE rfl ?_|refine dG (by kernel_rfl) ?_|fail);(conv=>whnf)))
                  exact And.intro (AV.Le.refl _) rfl
                · have e := Option.some.inj hc23; subst e
                  ((conv=>whnf);repeat((first|refine Ta ?_|refine Tz mix ?_|refine Tc ?_|refine Tb ?_|refine Td rfl ?_|refine Tl ?_|refine sE rfl ?_|refine dG (by kernel_rfl) ?_|fail);(conv=>whnf)))
                  exact And.intro (AV.Le.refl _) rfl
theorem c_decomp_rowError (p_t : T_api_Norm) (p_i : Int) (r : Er) (h : m_decomp_rowError p_t p_i = some r) : Contract pl 124 [(e_api_Norm p_t), (AV.int .i64 p_i)] [] (AV.err r) [] := by
  refine contract_of (.t false .z (.t false .z (.t false (.t true .z .z) (.t false (.t true .z .z) (.t false (.t true .z .z) (.t true (.t false .z (.t false (.t false (.t false .z (.t false .z (.t false (.t false (.t false .z (.t true .z .z)) .z) .z))) .z) .z)) .z)))))) Tryd.func124 rfl (by kernel_rfl) ?_
  ((conv=>whnf);repeat((first|refine Ta ?_|refine Tz mix ?_|refine Tc ?_|refine Tb ?_|refine Td rfl ?_|refine Tl ?_|refine sE rfl ?_|refine dG (by kernel_rfl) ?_|fail);(conv=>whnf)))
  refine grd2 rfl rfl h (fun h => ?_)
  ((conv=>whnf);repeat((first|refine Ta ?_|refine Tz mix ?_|refine Tc ?_|refine Tb ?_|refine Td rfl ?_|refine Tl ?_|refine sE rfl ?_|refine dG (by kernel_rfl) ?_|fail);(conv=>whnf)))
  refine bnd h (fun x22 h22 h => ?_)
  refine cut_at (fun s1 : Bool => mkF 76 [(1, (.int .i64 p_i)), (2, (.mp 0 0 0)), (5, (.mp 1 0 0)), (22, (.bool s1))] [some ⟨3, 40, (.vals [(e_api_Norm p_t)]), false, false⟩, some ⟨2, 103, (.vals [(e_api_Row (p_t.f_Rows.getD (p_i.toNat) d_api_Row))]), false, false⟩]) (fun s1 : Bool => m_decomp_rowError_K2 p_t p_i s1 = some r) ?_ ?_
  · intro Kn22 hn22
    ((conv=>whnf);repeat((first|refine Ta ?_|refine Tz mix ?_|refine Tc ?_|refine Tb ?_|refine Td rfl ?_|refine Tl ?_|refine sE rfl ?_|refine dG (by kernel_rfl) ?_|fail);(conv=>whnf)))
    refine bnd h22 (fun y20 hy20 h22 => ?_)
    refine Or.inl ⟨_, c_utf_Right _ _ hy20, rfl, ?_⟩
    ((conv=>whnf);repeat((first|refine Ta ?_|refine Tz mix ?_|refine Tc ?_|refine Tb ?_|refine Td rfl ?_|refine Tl ?_|refine sE rfl ?_|refine dG (by kernel_rfl) ?_|fail);(conv=>whnf)))
    refine br_b rfl h22 (fun c23 h22 => ?_) (fun c23 h22 => ?_)
    · have e := Option.some.inj h22; subst e
      ((conv=>whnf);repeat((first|refine Ta ?_|refine Tz mix ?_|refine Tc ?_|refine Tb ?_|refine Td rfl ?_|refine Tl ?_|refine sE rfl ?_|refine dG (by kernel_rfl) ?_|fail);(conv=>whnf)))
      exact hn22 _ true h (weak_gen [0, 1] rfl rfl (storeLe.cons rfl (objLe.mk id id (rowLe_vals (valsLe.cons (cellsLe_refl rfl) valsLe.nil))) (storeLe.cons rfl (objLe.mk id id (rowLe_vals (valsLe.cons (cellsLe_refl rfl) valsLe.nil))) storeLe.nil)) (slotsLe.cons (And.intro rfl (AV.Le.refl _)) (slotsLe.cons (And.intro rfl (AV.Le.refl _)) (slotsLe.cons (And.intro rfl (AV.Le.refl _)) (slotsLe.cons (And.intro rfl (AV.Le.refl _)) slotsLe.nil)))))
    · ((conv=>whnf);repeat((first|refine Ta ?_|refine Tz mix ?_|refine Tc ?_|refine Tb ?_|refine Td rfl ?_|refine Tl ?_|refine sE rfl ?_|refine dG (by kernel_rfl) ?_|fail);(conv=>whnf)))
      refine bnd h22 (fun y21 hy21 h22 => ?_)
      refine Or.inl ⟨_, c_decomp_hangul _ _ hy21, rfl, ?_⟩
      have e := Option.some.inj h22; subst e
      ((conv=>whnf);repeat((first|refine Ta ?_|refine Tz mix ?_|refine Tc ?_|refine Tb ?_|refine Td rfl ?_|refine Tl ?_|refine sE rfl ?_|refine dG (by kernel_rfl) ?_|fail);(conv=>whnf)))
      exact hn22 _ (y21 != (0 : Int)) h (weak_gen [0, 1] rfl rfl (storeLe.cons rfl (objLe.mk id id (rowLe_vals (valsLe.cons (cellsLe_refl rfl) valsLe.nil))) (storeLe.cons rfl (objLe.mk id id (rowLe_vals (valsLe.cons (cellsLe_refl rfl) valsLe.nil))) storeLe.nil)) (slotsLe.cons (And.intro rfl (AV.Le.refl _)) (slotsLe.cons (And.intro rfl (AV.Le.refl _)) (slotsLe.cons (And.intro rfl (AV.Le.refl _)) (slotsLe.cons (And.intro rfl (AV.Le.refl _)) slotsLe.nil)))))
  · clear h h22
    intro s1 hc24
    ((conv=>whnf);repeat((first|refine Ta ?_|refine Tz mix ?_|refine Tc ?_|refine Tb ?_|refine Td rfl ?_|refine Tl ?_|refine sE rfl ?_|refine dG (by kernel_rfl) ?_|fail);(conv=>whnf)))
    refine br_b rfl hc24 (fun c25 hc24 => ?_) (fun c25 hc24 => ?_)
    · have e := Option.some.inj hc24; subst e
      ((conv=>whnf);repeat((first|refine Ta ?_|refine Tz mix ?_|refine Tc ?_|refine Tb ?_|refine Td rfl ?_|refine Tl ?_|refine sE rfl ?_|refine dG (by kernel_rfl) ?_|fail);(conv=>whnf)))
      exact And.intro (AV.Le.refl _) rfl
    · ((conv=>whnf);repeat((first|refine Ta ?_|refine Tz mix ?_|refine Tc ?_|refine Tb ?_|refine Td rfl ?_|refine Tl ?_|refine sE rfl ?_|refine dG (by kernel_rfl) ?_|fail);(conv=>whnf)))
      refine bnd hc24 (fun x26 h26 hc24 => ?_)
      refine cut_at (fun s3 : Bool => mkF 76 [(5, (.mp 0 0 0)), (37, (.bool s3))] [some ⟨2, 103, (.vals [(e_api_Row (p_t.f_Rows.getD (p_i.toNat) d_api_Row))]), false, false⟩]) (fun s3 : Bool => m_decomp_rowError_K4 p_t p_i s3 = some r) ?_ ?_
      · intro Kn26 hn26
        ((conv=>whnf);repeat((first|refine Ta ?_|refine Tz mix ?_|refine Tc ?_|refine Tb ?_|refine Td rfl ?_|refine Tl ?_|refine sE rfl ?_|refine dG (by kernel_rfl) ?_|fail);(conv=>whnf)))
        refine br_b rfl h26 (fun c27 h26 => ?_) (fun c27 h26 => ?_)
        · ((conv=>whnf);repeat((first|refine Ta ?_|refine Tz mix ?_|refine Tc ?_|refine Tb ?_|refine Td rfl ?_|refine Tl ?_|refine sE rfl ?_|refine dG (by kernel_rfl) ?_|fail);(conv=>whnf)))
          refine grd2 rfl rfl h26 (fun h26 => ?_)
          have e := Option.some.inj h26; subst e
          ((conv=>whnf);repeat((first|refine Ta ?_|refine Tz mix ?_|refine Tc ?_|refine Tb ?_|refine Td rfl ?_|refine Tl ?_|refine sE rfl ?_|refine dG (by kernel_rfl) ?_|fail);(conv=>whnf)))
          exact hn26 _ (decide ((p_t.f_Rows.getD (p_i.toNat) d_api_Row).f_From ≤ (p_t.f_Rows.getD ((IntKind.wrap .i64 (p_i - (1 : Int))).toNat) d_api_Row).f_From)) hc24 (weak_gen [1] rfl rfl (storeLe.cons rfl (objLe.mk id id (rowLe_vals (valsLe.cons (cellsLe_refl rfl) valsLe.nil))) storeLe.nil) (slotsLe.cons (And.intro rfl (AV.Le.refl _)) (slotsLe.cons (And.intro rfl (AV.Le.refl _)) slotsLe.nil)))
        · have e := Option.some.inj h26; subst e
          ((conv=>whnf);repeat((first|refine Ta ?_|refine Tz mix ?_|refine Tc ?_|refine Tb ?_|refine Td rfl ?_|refine Tl ?_|refine sE rfl ?_|refine dG (by kernel_rfl) ?_|fail);(conv=>whnf)))
          exact hn26 _ false hc24 (weak_gen [1] rfl rfl (storeLe.cons rfl (objLe.mk id id (rowLe_vals (valsLe.cons (cellsLe_refl rfl) valsLe.nil))) storeLe.nil) (slotsLe.cons (And.intro rfl (AV.Le.refl _)) (slotsLe.cons (And.intro rfl (AV.Le.refl _)) slotsLe.nil)))
      · clear hc24 h26
        intro s3 hc28
        ((conv=>whnf);repeat((first|refine Ta ?_|refine Tz mix ?_|refine Tc ?_|refine Tb ?_|refine Td rfl ?_|refine Tl ?_|refine sE rfl ?_|refine dG (by kernel_rfl) ?_|fail);(conv=>whnf)))
        refine br_b rfl hc28 (fun c29 hc28 => ?_) (fun c29 hc28 => ?_)
        · have e := Option.some.inj hc28; subst e
          ((conv=>whnf);repeat((first|refine Ta ?_|refine Tz mix ?_|refine Tc ?_|refine Tb ?_|refine Td rfl ?_|refine Tl ?_|refine sE rfl ?_|refine dG (by kernel_rfl) ?_|fail);(conv=>whnf)))
          exact And.intro (AV.Le.refl _) rfl
        · ((conv=>whnf);repeat((first|refine Ta ?_|refine Tz mix ?_|refine Tc ?_|refine Tb ?_|refine Td rfl ?_|refine Tl ?_|refine sE rfl ?_|refine dG (by kernel_rfl) ?_|fail);(conv=>whnf)))
          refine bnd hc28 (fun x30 h30 hc28 => ?_)
          refine cut_at (fun s5 : Bool => mkF 76 [(5, (.mp 0 0 0)), (57, (.bool s5))] [some ⟨2, 103, (.vals [(e_api_Row (p_t.f_Rows.getD (p_i.toNat) d_api_Row))]), false, false⟩]) (fun s5 : Bool => m_decomp_rowError_K6 p_t p_i s5 = some r) ?_ ?_
          · intro Kn30 hn30
            ((conv=>whnf);repeat((first|refine Ta ?_|refine Tz mix ?_|refine Tc ?_|refine Tb ?_|refine Td rfl ?_|refine Tl ?_|refine sE rfl ?_|refine dG (by kernel_rfl) ?_|fail);(conv=>whnf)))
            refine br_b rfl h30 (fun c31 h30 => ?_) (fun c31 h30 => ?_)
            · have e := Option.some.inj h30; subst e
              ((conv=>whnf);repeat((first|refine Ta ?_|refine Tz mix ?_|refine Tc ?_|refine Tb ?_|refine Td rfl ?_|refine Tl ?_|refine sE rfl ?_|refine dG (by kernel_rfl) ?_|fail);(conv=>whnf)))
              exact hn30 _ true hc28 (weak_gen [0] rfl rfl (storeLe.cons rfl (objLe.mk id id (rowLe_vals (valsLe.cons (cellsLe_refl rfl) valsLe.nil))) storeLe.nil) (slotsLe.cons (And.intro rfl (AV.Le.refl _)) (slotsLe.cons (And.intro rfl (AV.Le.refl _)) slotsLe.nil)))
            · ((conv=>whnf);repeat((first|refine Ta ?_|refine Tz mix ?_|refine Tc ?_|refine Tb ?_|refine Td rfl ?_|refine Tl ?_|refine sE rfl ?_|refine dG (by kernel_rfl) ?_|fail);(conv=>whnf)))
              refine br_b rfl h30 (fun c32 h30 => ?_) (fun c32 h30 => ?_)
              · have e := Option.some.inj h30; subst e
                ((conv=>whnf);repeat((first|refine Ta ?_|refine Tz mix ?_|refine Tc ?_|refine Tb ?_|refine Td rfl ?_|refine Tl ?_|refine sE rfl ?_|refine dG (by kernel_rfl) ?_|fail);(conv=>whnf)))
                exact hn30 _ true hc28 (weak_gen [0] rfl rfl (storeLe.cons rfl (objLe.mk id id (rowLe_vals (valsLe.cons (cellsLe_refl rfl) valsLe.nil))) storeLe.nil) (slotsLe.cons (And.intro rfl (AV.Le.refl _)) (slotsLe.cons (And.intro rfl (AV.Le.refl _)) slotsLe.nil)))
              · ((conv=>whnf);repeat((first|refine Ta ?_|refine Tz mix ?_|refine Tc ?_|refine Tb ?_|refine Td rfl ?_|refine Tl ?_|refine sE rfl ?_|refine dG (by kernel_rfl) ?_|fail);(conv=>whnf)))
                refine grd2 rfl rfl h30 (fun h30 => ?_)
                have e := Option.some.inj h30; subst e
                ((conv=>whnf);repeat((first|refine Ta ?_|refine Tz mix ?_|refine Tc ?_|refine Tb ?_|refine Td rfl ?_|refine Tl ?_|refine sE rfl ?_|refine dG (by kernel_rfl) ?_|fail);(conv=>whnf)))
                exact hn30 _ (decide (((p_t.f_Rows.getD (p_i.toNat) d_api_Row).f_To.getD 0 0) ≥ (p_t.f_Rows.getD (p_i.toNat) d_api_Row).f_From)) hc28 (weak_gen [0] rfl rfl (storeLe.cons rfl (objLe.mk id id (rowLe_vals (valsLe.cons (cellsLe_refl rfl) valsLe.nil))) storeLe.nil) (slotsLe.cons (And.intro rfl (AV.Le.refl _)) (slotsLe.cons (And.intro rfl (AV.Le.refl _)) slotsLe.nil)))
          · clear hc28 h30
            intro s5 hc33
            ((conv=>whnf);repeat((first|refine Ta ?_|refine Tz mix ?_|refine Tc ?_|refine Tb ?_|refine Td rfl ?_|refine Tl ?_|refine sE rfl ?_|refine dG (by kernel_rfl) ?_|fail);(conv=>whnf)))
            refine br_b rfl hc33 (fun c34 hc33 => ?_) (fun c34 hc33 => ?_)
            · have e := Option.some.inj hc33; subst e
              ((conv=>whnf);repeat((first|refine Ta ?_|refine Tz mix ?_|refine Tc ?_|refine Tb ?_|refine Td rfl ?_|refine Tl ?_|refine sE rfl ?_|refine dG (by kernel_rfl) ?_|fail);(conv=>whnf)))
              exact And.intro (AV.Le.refl _) rfl
            · ((conv=>whnf);repeat((first|refine Ta ?_|refine Tz mix ?_|refine Tc ?_|refine Tb ?_|refine Td rfl ?_|refine Tl ?_|refine sE rfl ?_|refine dG (by kernel_rfl) ?_|fail);(conv=>whnf)))
              refine bnd hc33 (fun x35 h35 hc33 => ?_)
              refine cut_at (fun s7 : Unit => mkF 76 [] []) (fun s7 : Unit => some Er.nil = some r) ?_ ?_
              · intro Kn35 hn35
                ((conv=>whnf);repeat((first|refine Ta ?_|refine Tz mix ?_|refine Tc ?_|refine Tb ?_|refine Td rfl ?_|refine Tl ?_|refine sE rfl ?_|refine dG (by kernel_rfl) ?_|fail);(conv=>whnf)))
                refine loop_iter (fun s10 : Int => mkF 76 [(60, (e_L_i32 ((p_t.f_Rows.getD (p_i.toNat) d_api_Row).f_To))), (61, (.int .i64 (((p_t.f_Rows.getD (p_i.toNat) d_api_Row).f_To.length : Nat) : Int))), (62, (.int .i64 s10))] []) h35 (weak_gen [] rfl rfl storeLe.nil (slotsLe.cons (And.intro rfl (AV.Le.refl _)) (slotsLe.cons (And.intro rfl (AV.Le.refl _)) (slotsLe.cons (And.intro rfl (AV.Le.refl _)) slotsLe.nil)))) ?_
                intro k12 s10 st12 Kn12 hn12 h12_ hs12
                ((conv=>whnf);repeat((first|refine Ta ?_|refine Tz mix ?_|refine Tc ?_|refine Tb ?_|refine Td rfl ?_|refine Tl ?_|refine sE rfl ?_|refine dG (by kernel_rfl) ?_|fail);(conv=>whnf)))
                refine br_b rfl h12_ (fun c36 h12_ => ?_) (fun c36 h12_ => ?_)
                · ((conv=>whnf);repeat((first|refine Ta ?_|refine Tz mix ?_|refine Tc ?_|refine Tb ?_|refine Td rfl ?_|refine Tl ?_|refine sE rfl ?_|refine dG (by kernel_rfl) ?_|fail);(conv=>whnf)))
                  refine grd2 rfl rfl h12_ (fun h12_ => ?_)
                  ((conv=>whnf);repeat((first|refine Ta ?_|refine Tz mix ?_|refine Tc ?_|refine Tb ?_|refine Td rfl ?_|refine Tl ?_|refine sE rfl ?_|refine dG (by kernel_rfl) ?_|fail);(conv=>whnf)))
                  refine bnd h12_ (fun x37 h37 h12_ => ?_)
                  refine cut_at (fun s13 : Bool => mkF 76 [(60, (e_L_i32 ((p_t.f_Rows.getD (p_i.toNat) d_api_Row).f_To))), (61, (.int .i64 (((p_t.f_Rows.getD (p_i.toNat) d_api_Row).f_To.length : Nat) : Int))), (62, (.int .i64 s10)), (73, (.bool s13))] []) (fun s13 : Bool => m_decomp_rowError_K14 s10 s13 = some st12) ?_ ?_
                  · intro Kn37 hn37
                    ((conv=>whnf);repeat((first|refine Ta ?_|refine Tz mix ?_|refine Tc ?_|refine Tb ?_|refine Td rfl ?_|refine Tl ?_|refine sE rfl ?_|refine dG (by kernel_rfl) ?_|fail);(conv=>whnf)))
                    refine bnd h37 (fun y15 hy15 h37 => ?_)
                    refine Or.inl ⟨_, c_utf_Right _ _ hy15, rfl, ?_⟩
                    ((conv=>whnf);repeat((first|refine Ta ?_|refine Tz mix ?_|refine Tc ?_|refine Tb ?_|refine Td rfl ?_|refine Tl ?_|refine sE rfl ?_|refine dG (by kernel_rfl) ?_|fail);(conv=>whnf)))
                    refine br_b rfl h37 (fun c38 h37 => ?_) (fun c38 h37 => ?_)
                    · have e := Option.some.inj h37; subst e
                      ((conv=>whnf);repeat((first|refine Ta ?_|refine Tz mix ?_|refine Tc ?_|refine Tb ?_|refine Td rfl ?_|refine Tl ?_|refine sE rfl ?_|refine dG (by kernel_rfl) ?_|fail);(conv=>whnf)))
                      exact hn37 _ true h12_ (weak_gen [] rfl rfl storeLe.nil (slotsLe.cons (And.intro rfl (AV.Le.refl _)) (slotsLe.cons (And.intro rfl (AV.Le.refl _)) (slotsLe.cons (And.intro rfl (AV.Le.refl _)) (slotsLe.cons (And.intro rfl (AV.Le.refl _)) slotsLe.nil)))))
                    · ((conv=>whnf);repeat((first|refine Ta ?_|refine Tz mix ?_|refine Tc ?_|refine Tb ?_|refine Td rfl ?_|refine Tl ?_|refine sE rfl ?_|refine dG (by kernel_rfl) ?_|fail);(conv=>whnf)))
                      refine bnd h37 (fun y16 hy16 h37 => ?_)
                      refine Or.inl ⟨_, c_decomp_hangul _ _ hy16, rfl, ?_⟩
                      have e := Option.some.inj h37; subst e
                      ((conv=>whnf);repeat((first|refine Ta ?_|refine Tz mix ?_|refine Tc ?_|refine Tb ?_|refine Td rfl ?_|refine Tl ?_|refine sE rfl ?_|refine dG (by kernel_rfl) ?_|fail);(conv=>whnf)))
                      exact hn37 _ (y16 != (0 : Int)) h12_ (weak_gen [] rfl rfl storeLe.nil (slotsLe.cons (And.intro rfl (AV.Le.refl _)) (slotsLe.cons (And.intro rfl (AV.Le.refl _)) (slotsLe.cons (And.intro rfl (AV.Le.refl _)) (slotsLe.cons (And.intro rfl (AV.Le.refl _)) slotsLe.nil)))))
                  · clear h12_ h37
                    intro s13 hc39
                    ((conv=>whnf);repeat((first|refine Ta ?_|refine Tz mix ?_|refine Tc ?_|refine Tb ?_|refine Td rfl ?_|refine Tl ?_|refine sE rfl ?_|refine dG (by kernel_rfl) ?_|fail);(conv=>whnf)))
                    refine br_b rfl hc39 (fun c40 hc39 => ?_) (fun c40 hc39 => ?_)
                    · have e := Option.some.inj hc39; subst e
                      have e := done_out hs12; subst e
                      have e := Option.some.inj hc33; subst e
                      ((conv=>whnf);repeat((first|refine Ta ?_|refine Tz mix ?_|refine Tc ?_|refine Tb ?_|refine Td rfl ?_|refine Tl ?_|refine sE rfl ?_|refine dG (by kernel_rfl) ?_|fail);(conv=>whnf)))
                      exact And.intro (AV.Le.refl _) rfl
                    · have e := Option.some.inj hc39; subst e
                      ((conv=>whnf);repeat((first|refine Ta ?_|refine Tz mix ?_|refine Tc ?_|refine Tb ?_|refine Td rfl ?_|refine Tl ?_|refine sE rfl ?_|refine dG (by kernel_rfl) ?_|fail);(conv=>whnf)))
                      exact hn12 _ (IntKind.wrap .i64 (s10 + (1 : Int))) hs12 (weak_gen [] rfl rfl storeLe.nil (slotsLe.cons (And.intro rfl (AV.Le.refl _)) (slotsLe.cons (And.intro rfl (AV.Le.refl _)) (slotsLe.cons (And.intro rfl (AV.Le.refl _)) slotsLe.nil))))
                · have e := Option.some.inj h12_; subst e
                  have e := done_out hs12; subst e
                  ((conv=>whnf);repeat((first|refine Ta ?_|refine Tz mix ?_|refine Tc ?_|refine Tb ?_|refine Td rfl ?_|refine Tl ?_|refine sE rfl ?_|refine dG (by kernel_rfl) ?_|fail);(conv=>whnf)))
                  exact hn35 _ () hc33 (weak_gen [] rfl rfl storeLe.nil slotsLe.nil)
              · clear hc33 h35
                intro s7 hc41
                have e := Option.some.inj hc41; subst e
                ((conv=>whnf);repeat((first|refine Ta ?_|refine Tz mix ?_|refine Tc ?_|refine Tb ?_|refine Td rfl ?_|refine Tl ?_|refine sE rfl ?_|refine dG (by kernel_rfl) ?_|fail);(conv=>whnf)))
                exact And.intro (AV.Le.err_nil) rfl
theorem c_decomp_rises (p_t : T_api_Norm) (r : Int) (h : m_decomp_rises p_t = some r) : Contract pl 121 [(e_api_Norm p_t)] [] (AV.int .i64 r) [] := by
  refine contract_of (.t false .z (.t false .z (.t true (.t false (.t false (.t false (.t true .z .z) .z) .z) .z) .z))) Tryd.func121 rfl (by kernel_rfl) ?_
  ((conv=>whnf);repeat((first|refine Ta ?_|refine Tz mix ?_|refine Tc ?_|refine Tb ?_|refine Td rfl ?_|refine Tl ?_|refine sE rfl ?_|refine dG (by kernel_rfl) ?_|fail);(conv=>whnf)))
  refine bnd h (fun x11 h11 h => ?_)
  refine cut_at (fun s1 : Int => mkF 18 [(3, (.int .i64 s1))] []) (fun s1 : Int => some s1 = some r) ?_ ?_
  · intro Kn11 hn11
    ((conv=>whnf);repeat((first|refine Ta ?_|refine Tz mix ?_|refine Tc ?_|refine Tb ?_|refine Td rfl ?_|refine Tl ?_|refine sE rfl ?_|refine dG (by kernel_rfl) ?_|fail);(conv=>whnf)))
    refine loop_iter (fun s4 : Int => mkF 18 [(1, (.mp 0 0 0)), (3, (.int .i64 s4))] [some ⟨3, 40, (.vals [(e_api_Norm p_t)]), false, false⟩]) h11 (weak_gen [0] rfl rfl (storeLe.cons rfl (objLe.mk id id (rowLe_vals (valsLe.cons (cellsLe_refl rfl) valsLe.nil))) storeLe.nil) (slotsLe.cons (And.intro rfl (AV.Le.refl _)) (slotsLe.cons (And.intro rfl (AV.Le.refl _)) slotsLe.nil))) ?_
    intro k6 s4 st6 Kn6 hn6 h6_ hs6
    ((conv=>whnf);repeat((first|refine Ta ?_|refine Tz mix ?_|refine Tc ?_|refine Tb ?_|refine Td rfl ?_|refine Tl ?_|refine sE rfl ?_|refine dG (by kernel_rfl) ?_|fail);(conv=>whnf)))
    refine bnd h6_ (fun x12 h12 h6_ => ?_)
    refine cut_at (fun s7 : Bool => mkF 18 [(1, (.mp 0 0 0)), (3, (.int .i64 s4)), (14, (.bool s7))] [some ⟨3, 40, (.vals [(e_api_Norm p_t)]), false, false⟩]) (fun s7 : Bool => m_decomp_rises_K8 s4 s7 = some st6) ?_ ?_
    · intro Kn12 hn12
      ((conv=>whnf);repeat((first|refine Ta ?_|refine Tz mix ?_|refine Tc ?_|refine Tb ?_|refine Td rfl ?_|refine Tl ?_|refine sE rfl ?_|refine dG (by kernel_rfl) ?_|fail);(conv=>whnf)))
      refine br_b rfl h12 (fun c13 h12 => ?_) (fun c13 h12 => ?_)
      · ((conv=>whnf);repeat((first|refine Ta ?_|refine Tz mix ?_|refine Tc ?_|refine Tb ?_|refine Td rfl ?_|refine Tl ?_|refine sE rfl ?_|refine dG (by kernel_rfl) ?_|fail);(conv=>whnf)))
        refine bnd h12 (fun y9 hy9 h12 => ?_)
        refine Or.inl ⟨_, c_decomp_rowError _ _ _ hy9, rfl, ?_⟩
        have e := Option.some.inj h12; subst e
        ((conv=>whnf);repeat((first|refine Ta ?_|refine Tz mix ?_|refine Tc ?_|refine Tb ?_|refine Td rfl ?_|refine Tl ?_|refine sE rfl ?_|refine dG (by kernel_rfl) ?_|fail);(conv=>whnf)))
        exact hn12 _ y9.isNil h6_ (weak_gen [0] rfl rfl (storeLe.cons rfl (objLe.mk id id (rowLe_vals (valsLe.cons (cellsLe_refl rfl) valsLe.nil))) storeLe.nil) (slotsLe.cons (And.intro rfl (AV.Le.refl _)) (slotsLe.cons (And.intro rfl (AV.Le.refl _)) (slotsLe.cons (And.intro rfl (AV.Le.refl _)) slotsLe.nil))))
      · have e := Option.some.inj h12; subst e
        ((conv=>whnf);repeat((first|refine Ta ?_|refine Tz mix ?_|refine Tc ?_|refine Tb ?_|refine Td rfl ?_|refine Tl ?_|refine sE rfl ?_|refine dG (by kernel_rfl) ?_|fail);(conv=>whnf)))
        exact hn12 _ false h6_ (weak_gen [0] rfl rfl (storeLe.cons rfl (objLe.mk id id (rowLe_vals (valsLe.cons (cellsLe_refl rfl) valsLe.nil))) storeLe.nil) (slotsLe.cons (And.intro rfl (AV.Le.refl _)) (slotsLe.cons (And.intro rfl (AV.Le.refl _)) (slotsLe.cons (And.intro rfl (AV.Le.refl _)) slotsLe.nil))))
    · clear h6_ h12
      intro s7 hc14
      ((conv=>whnf);repeat((first|refine Ta ?_|refine Tz mix ?_|refine Tc ?_|refine Tb ?_|refine Td rfl ?_|refine Tl ?_|refine sE rfl ?_|refine dG (by kernel_rfl) ?_|fail);(conv=>whnf)))
      refine br_b rfl hc14 (fun c15 hc14 => ?_) (fun c15 hc14 => ?_)
      · have e := Option.some.inj hc14; subst e
        ((conv=>whnf);repeat((first|refine Ta ?_|refine Tz mix ?_|refine Tc ?_|refine Tb ?_|refine Td rfl ?_|refine Tl ?_|refine sE rfl ?_|refine dG (by kernel_rfl) ?_|fail);(conv=>whnf)))
        exact hn6 _ (IntKind.wrap .i64 (s4 + (1 : Int))) hs6 (weak_gen [0] rfl rfl (storeLe.cons rfl (objLe.mk id id (rowLe_vals (valsLe.cons (cellsLe_refl rfl) valsLe.nil))) storeLe.nil) (slotsLe.cons (And.intro rfl (AV.Le.refl _)) (slotsLe.cons (And.intro rfl (AV.Le.refl _)) slotsLe.nil)))
      · have e := Option.some.inj hc14; subst e
        have e := done_out hs6; subst e
        ((conv=>whnf);repeat((first|refine Ta ?_|refine Tz mix ?_|refine Tc ?_|refine Tb ?_|refine Td rfl ?_|refine Tl ?_|refine sE rfl ?_|refine dG (by kernel_rfl) ?_|fail);(conv=>whnf)))
        exact hn11 _ s4 h (weak_gen [] rfl rfl storeLe.nil (slotsLe.cons (And.intro rfl (AV.Le.refl _)) slotsLe.nil))
  · clear h h11
    intro s1 hc16
    have e := Option.some.inj hc16; subst e
    ((conv=>whnf);repeat((first|refine Ta ?_|refine Tz mix ?_|refine Tc ?_|refine Tb ?_|refine Td rfl ?_|refine Tl ?_|refine sE rfl ?_|refine dG (by kernel_rfl) ?_|fail);(conv=>whnf)))
    exact And.intro (AV.Le.refl _) rfl
theorem c_decomp_has_1 (p_x : T_api_Row) (p_a1 : Int) (r : Bool) (h : m_decomp_has_1 p_x p_a1 = some r) : Contract pl 158 [(e_api_Row p_x), (AV.ip (AV.int .i32 p_a1) 0)] [] (AV.bool r) [] := by
  refine contract_of .z Tryd.func158 rfl (by kernel_rfl) ?_
  have e := Option.some.inj h; subst e
  ((conv=>whnf);repeat((first|refine Ta ?_|refine Tz mix ?_|refine Tc ?_|refine Tb ?_|refine Td rfl ?_|refine Tl ?_|refine sE rfl ?_|refine dG (by kernel_rfl) ?_|fail);(conv=>whnf)))
  exact And.intro (AV.Le.refl _) rfl
theorem c_slices_IndexFunc_api_Row_api_Row_decomp_has_1 (p_s : (List T_api_Row)) (p_f : Int) (r : Int) (h : m_slices_IndexFunc_api_Row_api_Row_decomp_has_1 p_s p_f = some r) : Contract pl 172 [(e_L_api_Row p_s), (AV.fn (.func 158) [] [(AV.ip (AV.int .i32 p_f) 0)])] [] (AV.int .i64 r) [] := by
  refine contract_of (.t false .z (.t true .z .z)) Tryd.func172 rfl (by kernel_rfl) ?_
  ((conv=>whnf);repeat((first|refine Ta ?_|refine Tz mix ?_|refine Tc ?_|refine Tb ?_|refine Td rfl ?_|refine Tl ?_|refine sE rfl ?_|refine dG (by kernel_rfl) ?_|fail);(conv=>whnf)))
  refine bnd h (fun x11 h11 h => ?_)
  refine cut_at (fun s1 : Unit => mkF 19 [] []) (fun s1 : Unit => some (-1 : Int) = some r) ?_ ?_
  · intro Kn11 hn11
    ((conv=>whnf);repeat((first|refine Ta ?_|refine Tz mix ?_|refine Tc ?_|refine Tb ?_|refine Td rfl ?_|refine Tl ?_|refine sE rfl ?_|refine dG (by kernel_rfl) ?_|fail);(conv=>whnf)))
    refine loop_iter (fun s4 : Int => mkF 19 [(0, (e_L_api_Row p_s)), (1, (.fn (.func 158) [] [(.ip (.int .i32 p_f) 0)])), (7, (.int .i64 ((p_s.length : Nat) : Int))), (8, (.int .i64 s4))] []) h11 (weak_gen [] rfl rfl storeLe.nil (slotsLe.cons (And.intro rfl (AV.Le.refl _)) (slotsLe.cons (And.intro rfl (AV.Le.refl _)) (slotsLe.cons (And.intro rfl (AV.Le.refl _)) (slotsLe.cons (And.intro rfl (AV.Le.refl _)) slotsLe.nil))))) ?_
    intro k6 s4 st6 Kn6 hn6 h6_ hs6
    ((conv=>whnf);repeat((first|refine Ta ?_|refine Tz mix ?_|refine Tc ?_|refine Tb ?_|refine Td rfl ?_|refine Tl ?_|refine sE rfl ?_|refine dG (by kernel_rfl) ?_|fail);(conv=>whnf)))
    refine br_b rfl h6_ (fun c12 h6_ => ?_) (fun c12 h6_ => ?_)
    · ((conv=>whnf);repeat((first|refine Ta ?_|refine Tz mix ?_|refine Tc ?_|refine Tb ?_|refine Td rfl ?_|refine Tl ?_|refine sE rfl ?_|refine dG (by kernel_rfl) ?_|fail);(conv=>whnf)))
      refine grd2 rfl rfl h6_ (fun h6_ => ?_)
      ((conv=>whnf);repeat((first|refine Ta ?_|refine Tz mix ?_|refine Tc ?_|refine Tb ?_|refine Td rfl ?_|refine Tl ?_|refine sE rfl ?_|refine dG (by kernel_rfl) ?_|fail);(conv=>whnf)))
      refine bnd h6_ (fun y7 hy7 h6_ => ?_)
      refine Or.inl ⟨_, c_decomp_has_1 _ _ _ hy7, rfl, ?_⟩
      ((conv=>whnf);repeat((first|refine Ta ?_|refine Tz mix ?_|refine Tc ?_|refine Tb ?_|refine Td rfl ?_|refine Tl ?_|refine sE rfl ?_|refine dG (by kernel_rfl) ?_|fail);(conv=>whnf)))
      refine br_b rfl h6_ (fun c13 h6_ => ?_) (fun c13 h6_ => ?_)
      · have e := Option.some.inj h6_; subst e
        have e := done_out hs6; subst e
        have e := Option.some.inj h; subst e
        ((conv=>whnf);repeat((first|refine Ta ?_|refine Tz mix ?_|refine Tc ?_|refine Tb ?_|refine Td rfl ?_|refine Tl ?_|refine sE rfl ?_|refine dG (by kernel_rfl) ?_|fail);(conv=>whnf)))
        exact And.intro (AV.Le.refl _) rfl
      · have e := Option.some.inj h6_; subst e
        ((conv=>whnf);repeat((first|refine Ta ?_|refine Tz mix ?_|refine Tc ?_|refine Tb ?_|refine Td rfl ?_|refine Tl ?_|refine sE rfl ?_|refine dG (by kernel_rfl) ?_|fail);(conv=>whnf)))
        exact hn6 _ (IntKind.wrap .i64 (s4 + (1 : Int))) hs6 (weak_gen [] rfl rfl storeLe.nil (slotsLe.cons (And.intro rfl (AV.Le.refl _)) (slotsLe.cons (And.intro rfl (AV.Le.refl _)) (slotsLe.cons (And.intro rfl (AV.Le.refl _)) (slotsLe.cons (And.intro rfl (AV.Le.refl _)) slotsLe.nil)))))
    · have e := Option.some.inj h6_; subst e
      have e := done_out hs6; subst e
      ((conv=>whnf);repeat((first|refine Ta ?_|refine Tz mix ?_|refine Tc ?_|refine Tb ?_|refine Td rfl ?_|refine Tl ?_|refine sE rfl ?_|refine dG (by kernel_rfl) ?_|fail);(conv=>whnf)))
      exact hn11 _ () h (weak_gen [] rfl rfl storeLe.nil slotsLe.nil)
  · clear h h11
    intro s1 hc14
    have e := Option.some.inj hc14; subst e
    ((conv=>whnf);repeat((first|refine Ta ?_|refine Tz mix ?_|refine Tc ?_|refine Tb ?_|refine Td rfl ?_|refine Tl ?_|refine sE rfl ?_|refine dG (by kernel_rfl) ?_|fail);(conv=>whnf)))
    exact And.intro (AV.Le.refl _) rfl
theorem c_slices_ContainsFunc_api_Row_api_Row_decomp_has_1 (p_s : (List T_api_Row)) (p_f : Int) (r : Bool) (h : m_slices_ContainsFunc_api_Row_api_Row_decomp_has_1 p_s p_f = some r) : Contract pl 157 [(e_L_api_Row p_s), (AV.fn (.func 158) [] [(AV.ip (AV.int .i32 p_f) 0)])] [] (AV.bool r) [] := by
  refine contract_of .z Tryd.func157 rfl (by kernel_rfl) ?_
  ((conv=>whnf);repeat((first|refine Ta ?_|refine Tz mix ?_|refine Tc ?_|refine Tb ?_|refine Td rfl ?_|refine Tl ?_|refine sE rfl ?_|refine dG (by kernel_rfl) ?_|fail);(conv=>whnf)))
  refine bnd h (fun y1 hy1 h => ?_)
  refine Or.inl ⟨_, c_slices_IndexFunc_api_Row_api_Row_decomp_has_1 _ _ _ hy1, rfl, ?_⟩
  have e := Option.some.inj h; subst e
  ((conv=>whnf);repeat((first|refine Ta ?_|refine Tz mix ?_|refine Tc ?_|refine Tb ?_|refine Td rfl ?_|refine Tl ?_|refine sE rfl ?_|refine dG (by kernel_rfl) ?_|fail);(conv=>whnf)))
  exact And.intro (AV.Le.refl _) rfl
theorem c_decomp_has (p_t : T_api_Norm) (p_r : Int) (r : Bool) (h : m_decomp_has p_t p_r = some r) : Contract pl 122 [(e_api_Norm p_t), (AV.int .i32 p_r)] [] (AV.bool r) [] := by
  refine contract_of .z Tryd.func122 rfl (by kernel_rfl) ?_
  ((conv=>whnf);repeat((first|refine Ta ?_|refine Tz mix ?_|refine Tc ?_|refine Tb ?_|refine Td rfl ?_|refine Tl ?_|refine sE rfl ?_|refine dG (by kernel_rfl) ?_|fail);(conv=>whnf)))
  refine bnd h (fun y1 hy1 h => ?_)
  refine Or.inl ⟨_, c_slices_ContainsFunc_api_Row_api_Row_decomp_has_1 _ _ _ hy1, rfl, ?_⟩
  have e := Option.some.inj h; subst e
  ((conv=>whnf);repeat((first|refine Ta ?_|refine Tz mix ?_|refine Tc ?_|refine Tb ?_|refine Td rfl ?_|refine Tl ?_|refine sE rfl ?_|refine dG (by kernel_rfl) ?_|fail);(conv=>whnf)))
  exact And.intro (AV.Le.refl _) rfl
theorem c_decomp_find_1 (p_k : Int) (p_a1 : T_api_Norm) (p_a2 : Int) (r : Bool) (h : m_decomp_find_1 p_k p_a1 p_a2 = some r) : Contract pl 138 [(AV.int .i64 p_k), (AV.ip (e_api_Norm p_a1) 0), (AV.ip (AV.int .i32 p_a2) 0)] [] (AV.bool r) [] := by
  refine contract_of .z Tryd.func138 rfl (by kernel_rfl) ?_
  ((conv=>whnf);repeat((first|refine Ta ?_|refine Tz mix ?_|refine Tc ?_|refine Tb ?_|refine Td rfl ?_|refine Tl ?_|refine sE rfl ?_|refine dG (by kernel_rfl) ?_|fail);(conv=>whnf)))
  refine grd2 rfl rfl h (fun h => ?_)
  have e := Option.some.inj h; subst e
  ((conv=>whnf);repeat((first|refine Ta ?_|refine Tz mix ?_|refine Tc ?_|refine Tb ?_|refine Td rfl ?_|refine Tl ?_|refine sE rfl ?_|refine dG (by kernel_rfl) ?_|fail);(conv=>whnf)))
  exact And.intro (AV.Le.refl _) rfl
theorem c_sort_Search_decomp_find_1 (p_n : Int) (p_f : T_api_Norm) (p_a2 : Int) (r : Int) (h : m_sort_Search_decomp_find_1 p_n p_f p_a2 = some r) : Contract pl 136 [(AV.int .i64 p_n), (AV.fn (.func 138) [] [(AV.ip (e_api_Norm p_f) 0), (AV.ip (AV.int .i32 p_a2) 0)])] [] (AV.int .i64 r) [] := by
  refine contract_of (.t false .z (.t false .z (.t true .z .z))) Tryd.func136 rfl (by kernel_rfl) ?_
  ((conv=>whnf);repeat((first|refine Ta ?_|refine Tz mix ?_|refine Tc ?_|refine Tb ?_|refine Td rfl ?_|refine Tl ?_|refine sE rfl ?_|refine dG (by kernel_rfl) ?_|fail);(conv=>whnf)))
  refine bnd h (fun x9 h9 h => ?_)
  refine cut_at (fun s1 : Int => mkF 26 [(5, (.int .i64 s1))] []) (fun s1 : Int => some s1 = some r) ?_ ?_
  · intro Kn9 hn9
    ((conv=>whnf);repeat((first|refine Ta ?_|refine Tz mix ?_|refine Tc ?_|refine Tb ?_|refine Td rfl ?_|refine Tl ?_|refine sE rfl ?_|refine dG (by kernel_rfl) ?_|fail);(conv=>whnf)))
    refine loop_iter (fun s4 : Int × Int => mkF 26 [(1, (.fn (.func 138) [] [(.ip (e_api_Norm p_f) 0), (.ip (.int .i32 p_a2) 0)])), (5, (.int .i64 s4.1)), (6, (.int .i64 s4.2))] []) h9 (weak_gen [] rfl rfl storeLe.nil (slotsLe.cons (And.intro rfl (AV.Le.refl _)) (slotsLe.cons (And.intro rfl (AV.Le.refl _)) (slotsLe.cons (And.intro rfl (AV.Le.refl _)) slotsLe.nil)))) ?_
    intro k6 s4 st6 Kn6 hn6 h6_ hs6
    ((conv=>whnf);repeat((first|refine Ta ?_|refine Tz mix ?_|refine Tc ?_|refine Tb ?_|refine Td rfl ?_|refine Tl ?_|refine sE rfl ?_|refine dG (by kernel_rfl) ?_|fail);(conv=>whnf)))
    refine br_b rfl h6_ (fun c10 h6_ => ?_) (fun c10 h6_ => ?_)
    · ((conv=>whnf);repeat((first|refine Ta ?_|refine Tz mix ?_|refine Tc ?_|refine Tb ?_|refine Td rfl ?_|refine Tl ?_|refine sE rfl ?_|refine dG (by kernel_rfl) ?_|fail);(conv=>whnf)))
      refine And.intro (by decide) ?_
      ((conv=>whnf);repeat((first|refine Ta ?_|refine Tz mix ?_|refine Tc ?_|refine Tb ?_|refine Td rfl ?_|refine Tl ?_|refine sE rfl ?_|refine dG (by kernel_rfl) ?_|fail);(conv=>whnf)))
      refine bnd h6_ (fun y7 hy7 h6_ => ?_)
      refine Or.inl ⟨_, c_decomp_find_1 _ _ _ _ hy7, rfl, ?_⟩
      ((conv=>whnf);repeat((first|refine Ta ?_|refine Tz mix ?_|refine Tc ?_|refine Tb ?_|refine Td rfl ?_|refine Tl ?_|refine sE rfl ?_|refine dG (by kernel_rfl) ?_|fail);(conv=>whnf)))
      refine br_b rfl h6_ (fun c11 h6_ => ?_) (fun c11 h6_ => ?_)
      · have e := Option.some.inj h6_; subst e
        ((conv=>whnf);repeat((first|refine Ta ?_|refine Tz mix ?_|refine Tc ?_|refine Tb ?_|refine Td rfl ?_|refine Tl ?_|refine sE rfl ?_|refine dG (by kernel_rfl) ?_|fail);(conv=>whnf)))
        exact hn6 _ ((IntKind.wrap .i64 ((IntKind.wrap .i64 (Int.fdiv (IntKind.wrap .u64 (IntKind.wrap .i64 (s4.1 + s4.2))) 2)) + (1 : Int))), s4.2) hs6 (weak_gen [] rfl rfl storeLe.nil (slotsLe.cons (And.intro rfl (AV.Le.refl _)) (slotsLe.cons (And.intro rfl (AV.Le.refl _)) (slotsLe.cons (And.intro rfl (AV.Le.refl _)) slotsLe.nil))))
      · have e := Option.some.inj h6_; subst e
        ((conv=>whnf);repeat((first|refine Ta ?_|refine Tz mix ?_|refine Tc ?_|refine Tb ?_|refine Td rfl ?_|refine Tl ?_|refine sE rfl ?_|refine dG (by kernel_rfl) ?_|fail);(conv=>whnf)))
        exact hn6 _ (s4.1, (IntKind.wrap .i64 (Int.fdiv (IntKind.wrap .u64 (IntKind.wrap .i64 (s4.1 + s4.2))) 2))) hs6 (weak_gen [] rfl rfl storeLe.nil (slotsLe.cons (And.intro rfl (AV.Le.refl _)) (slotsLe.cons (And.intro rfl (AV.Le.refl _)) (slotsLe.cons (And.intro rfl (AV.Le.refl _)) slotsLe.nil))))
    · have e := Option.some.inj h6_; subst e
      have e := done_out hs6; subst e
      ((conv=>whnf);repeat((first|refine Ta ?_|refine Tz mix ?_|refine Tc ?_|refine Tb ?_|refine Td rfl ?_|refine Tl ?_|refine sE rfl ?_|refine dG (by kernel_rfl) ?_|fail);(conv=>whnf)))
      exact hn9 _ s4.1 h (weak_gen [] rfl rfl storeLe.nil (slotsLe.cons (And.intro rfl (AV.Le.refl _)) slotsLe.nil))
  · clear h h9
    intro s1 hc12
    have e := Option.some.inj hc12; subst e
    ((conv=>whnf);repeat((first|refine Ta ?_|refine Tz mix ?_|refine Tc ?_|refine Tb ?_|refine Td rfl ?_|refine Tl ?_|refine sE rfl ?_|refine dG (by kernel_rfl) ?_|fail);(conv=>whnf)))
    exact And.intro (AV.Le.refl _) rfl
theorem c_decomp_find (p_t : T_api_Norm) (p_r : Int) (r : Int) (h : m_decomp_find p_t p_r = some r) : Contract pl 87 [(e_api_Norm p_t), (AV.int .i32 p_r)] [] (AV.int .i64 r) [] := by
  refine contract_of (.t false .z (.t false .z (.t false (.t true .z .z) .z))) Tryd.func87 rfl (by kernel_rfl) ?_
  ((conv=>whnf);repeat((first|refine Ta ?_|refine Tz mix ?_|refine Tc ?_|refine Tb ?_|refine Td rfl ?_|refine Tl ?_|refine sE rfl ?_|refine dG (by kernel_rfl) ?_|fail);(conv=>whnf)))
  refine bnd h (fun y1 hy1 h => ?_)
  refine Or.inl ⟨_, c_sort_Search_decomp_find_1 _ _ _ _ hy1, rfl, ?_⟩
  ((conv=>whnf);repeat((first|refine Ta ?_|refine Tz mix ?_|refine Tc ?_|refine Tb ?_|refine Td rfl ?_|refine Tl ?_|refine sE rfl ?_|refine dG (by kernel_rfl) ?_|fail);(conv=>whnf)))
  refine bnd h (fun x4 h4 h => ?_)
  refine cut_at (fun s2 : Bool => mkF 27 [(5, (.int .i64 y1)), (25, (.bool s2))] []) (fun s2 : Bool => m_decomp_find_K3 y1 s2 = some r) ?_ ?_
  · intro Kn4 hn4
    ((conv=>whnf);repeat((first|refine Ta ?_|refine Tz mix ?_|refine Tc ?_|refine Tb ?_|refine Td rfl ?_|refine Tl ?_|refine sE rfl ?_|refine dG (by kernel_rfl) ?_|fail);(conv=>whnf)))
    refine br_b rfl h4 (fun c5 h4 => ?_) (fun c5 h4 => ?_)
    · have e := Option.some.inj h4; subst e
      ((conv=>whnf);repeat((first|refine Ta ?_|refine Tz mix ?_|refine Tc ?_|refine Tb ?_|refine Td rfl ?_|refine Tl ?_|refine sE rfl ?_|refine dG (by kernel_rfl) ?_|fail);(conv=>whnf)))
      exact hn4 _ true h (weak_gen [] rfl rfl storeLe.nil (slotsLe.cons (And.intro rfl (AV.Le.refl _)) (slotsLe.cons (And.intro rfl (AV.Le.refl _)) slotsLe.nil)))
    · ((conv=>whnf);repeat((first|refine Ta ?_|refine Tz mix ?_|refine Tc ?_|refine Tb ?_|refine Td rfl ?_|refine Tl ?_|refine sE rfl ?_|refine dG (by kernel_rfl) ?_|fail);(conv=>whnf)))
      refine grd2 rfl rfl h4 (fun h4 => ?_)
      have e := Option.some.inj h4; subst e
      ((conv=>whnf);repeat((first|refine Ta ?_|refine Tz mix ?_|refine Tc ?_|refine Tb ?_|refine Td rfl ?_|refine Tl ?_|refine sE rfl ?_|refine dG (by kernel_rfl) ?_|fail);(conv=>whnf)))
      exact hn4 _ ((p_t.f_Rows.getD (y1.toNat) d_api_Row).f_From != p_r) h (weak_gen [] rfl rfl storeLe.nil (slotsLe.cons (And.intro rfl (AV.Le.refl _)) (slotsLe.cons (And.intro rfl (AV.Le.refl _)) slotsLe.nil)))
  · clear h h4
    intro s2 hc6
    ((conv=>whnf);repeat((first|refine Ta ?_|refine Tz mix ?_|refine Tc ?_|refine Tb ?_|refine Td rfl ?_|refine Tl ?_|refine sE rfl ?_|refine dG (by kernel_rfl) ?_|fail);(conv=>whnf)))
    refine br_b rfl hc6 (fun c7 hc6 => ?_) (fun c7 hc6 => ?_)
    · have e := Option.some.inj hc6; subst e
      ((conv=>whnf);repeat((first|refine Ta ?_|refine Tz mix ?_|refine Tc ?_|refine Tb ?_|refine Td rfl ?_|refine Tl ?_|refine sE rfl ?_|refine dG (by kernel_rfl) ?_|fail);(conv=>whnf)))
      exact And.intro (AV.Le.refl _) rfl
    · have e := Option.some.inj hc6; subst e
      ((conv=>whnf);repeat((first|refine Ta ?_|refine Tz mix ?_|refine Tc ?_|refine Tb ?_|refine Td rfl ?_|refine Tl ?_|refine sE rfl ?_|refine dG (by kernel_rfl) ?_|fail);(conv=>whnf)))
      exact And.intro (AV.Le.refl _) rfl
theorem c_decomp_chain (p_t : T_api_Norm) (p_row : Int) (r : Int) (h : m_decomp_chain p_t p_row = some r) : Contract pl 123 [(e_api_Norm p_t), (AV.int .i64 p_row)] [] (AV.int .i64 r) [] := by
  refine contract_of (.t false .z (.t false .z (.t true (.t false (.t false (.t false (.t true .z .z) .z) .z) .z) .z))) Tryd.func123 rfl (by kernel_rfl) ?_
  ((conv=>whnf);repeat((first|refine Ta ?_|refine Tz mix ?_|refine Tc ?_|refine Tb ?_|refine Td rfl ?_|refine Tl ?_|refine sE rfl ?_|refine dG (by kernel_rfl) ?_|fail);(conv=>whnf)))
  refine bnd h (fun x11 h11 h => ?_)
  refine cut_at (fun s1 : Int => mkF 33 [(5, (.int .i64 s1))] []) (fun s1 : Int => some s1 = some r) ?_ ?_
  · intro Kn11 hn11
    ((conv=>whnf);repeat((first|refine Ta ?_|refine Tz mix ?_|refine Tc ?_|refine Tb ?_|refine Td rfl ?_|refine Tl ?_|refine sE rfl ?_|refine dG (by kernel_rfl) ?_|fail);(conv=>whnf)))
    refine loop_iter (fun s4 : Int × Int => mkF 33 [(1, (.int .i64 s4.1)), (2, (.mp 0 0 0)), (5, (.int .i64 s4.2))] [some ⟨3, 40, (.vals [(e_api_Norm p_t)]), false, false⟩]) h11 (weak_gen [0] rfl rfl (storeLe.cons rfl (objLe.mk id id (rowLe_vals (valsLe.cons (cellsLe_refl rfl) valsLe.nil))) storeLe.nil) (slotsLe.cons (And.intro rfl (AV.Le.refl _)) (slotsLe.cons (And.intro rfl (AV.Le.refl _)) (slotsLe.cons (And.intro rfl (AV.Le.refl _)) slotsLe.nil)))) ?_
    intro k6 s4 st6 Kn6 hn6 h6_ hs6
    ((conv=>whnf);repeat((first|refine Ta ?_|refine Tz mix ?_|refine Tc ?_|refine Tb ?_|refine Td rfl ?_|refine Tl ?_|refine sE rfl ?_|refine dG (by kernel_rfl) ?_|fail);(conv=>whnf)))
    refine bnd h6_ (fun x12 h12 h6_ => ?_)
    refine cut_at (fun s7 : Bool => mkF 33 [(1, (.int .i64 s4.1)), (2, (.mp 0 0 0)), (5, (.int .i64 s4.2)), (11, (.bool s7))] [some ⟨3, 40, (.vals [(e_api_Norm p_t)]), false, false⟩]) (fun s7 : Bool => m_decomp_chain_K8 p_t s4 s7 = some st6) ?_ ?_
    · intro Kn12 hn12
      ((conv=>whnf);repeat((first|refine Ta ?_|refine Tz mix ?_|refine Tc ?_|refine Tb ?_|refine Td rfl ?_|refine Tl ?_|refine sE rfl ?_|refine dG (by kernel_rfl) ?_|fail);(conv=>whnf)))
      refine br_b rfl h12 (fun c13 h12 => ?_) (fun c13 h12 => ?_)
      · have e := Option.some.inj h12; subst e
        ((conv=>whnf);repeat((first|refine Ta ?_|refine Tz mix ?_|refine Tc ?_|refine Tb ?_|refine Td rfl ?_|refine Tl ?_|refine sE rfl ?_|refine dG (by kernel_rfl) ?_|fail);(conv=>whnf)))
        exact hn12 _ (decide (s4.2 ≤ (8 : Int))) h6_ (weak_gen [0] rfl rfl (storeLe.cons rfl (objLe.mk id id (rowLe_vals (valsLe.cons (cellsLe_refl rfl) valsLe.nil))) storeLe.nil) (slotsLe.cons (And.intro rfl (AV.Le.refl _)) (slotsLe.cons (And.intro rfl (AV.Le.refl _)) (slotsLe.cons (And.intro rfl (AV.Le.refl _)) (slotsLe.cons (And.intro rfl (AV.Le.refl _)) slotsLe.nil)))))
      · have e := Option.some.inj h12; subst e
        ((conv=>whnf);repeat((first|refine Ta ?_|refine Tz mix ?_|refine Tc ?_|refine Tb ?_|refine Td rfl ?_|refine Tl ?_|refine sE rfl ?_|refine dG (by kernel_rfl) ?_|fail);(conv=>whnf)))
        exact hn12 _ false h6_ (weak_gen [0] rfl rfl (storeLe.cons rfl (objLe.mk id id (rowLe_vals (valsLe.cons (cellsLe_refl rfl) valsLe.nil))) storeLe.nil) (slotsLe.cons (And.intro rfl (AV.Le.refl _)) (slotsLe.cons (And.intro rfl (AV.Le.refl _)) (slotsLe.cons (And.intro rfl (AV.Le.refl _)) (slotsLe.cons (And.intro rfl (AV.Le.refl _)) slotsLe.nil)))))
    · clear h6_ h12
      intro s7 hc14
      ((conv=>whnf);repeat((first|refine Ta ?_|refine Tz mix ?_|refine Tc ?_|refine Tb ?_|refine Td rfl ?_|refine Tl ?_|refine sE rfl ?_|refine dG (by kernel_rfl) ?_|fail);(conv=>whnf)))
      refine br_b rfl hc14 (fun c15 hc14 => ?_) (fun c15 hc14 => ?_)
      · ((conv=>whnf);repeat((first|refine Ta ?_|refine Tz mix ?_|refine Tc ?_|refine Tb ?_|refine Td rfl ?_|refine Tl ?_|refine sE rfl ?_|refine dG (by kernel_rfl) ?_|fail);(conv=>whnf)))
        refine grd2 rfl rfl hc14 (fun hc14 => ?_)
        ((conv=>whnf);repeat((first|refine Ta ?_|refine Tz mix ?_|refine Tc ?_|refine Tb ?_|refine Td rfl ?_|refine Tl ?_|refine sE rfl ?_|refine dG (by kernel_rfl) ?_|fail);(conv=>whnf)))
        refine br_b rfl hc14 (fun c16 hc14 => ?_) (fun c16 hc14 => ?_)
        · have e := Option.some.inj hc14; subst e
          have e := done_out hs6; subst e
          ((conv=>whnf);repeat((first|refine Ta ?_|refine Tz mix ?_|refine Tc ?_|refine Tb ?_|refine Td rfl ?_|refine Tl ?_|refine sE rfl ?_|refine dG (by kernel_rfl) ?_|fail);(conv=>whnf)))
          exact hn11 _ (IntKind.wrap .i64 (s4.2 + (1 : Int))) h (weak_gen [] rfl rfl storeLe.nil (slotsLe.cons (And.intro rfl (AV.Le.refl _)) slotsLe.nil))
        · ((conv=>whnf);repeat((first|refine Ta ?_|refine Tz mix ?_|refine Tc ?_|refine Tb ?_|refine Td rfl ?_|refine Tl ?_|refine sE rfl ?_|refine dG (by kernel_rfl) ?_|fail);(conv=>whnf)))
          refine grd2 rfl rfl hc14 (fun hc14 => ?_)
          ((conv=>whnf);repeat((first|refine Ta ?_|refine Tz mix ?_|refine Tc ?_|refine Tb ?_|refine Td rfl ?_|refine Tl ?_|refine sE rfl ?_|refine dG (by kernel_rfl) ?_|fail);(conv=>whnf)))
          refine grd2 rfl rfl hc14 (fun hc14 => ?_)
          ((conv=>whnf);repeat((first|refine Ta ?_|refine Tz mix ?_|refine Tc ?_|refine Tb ?_|refine Td rfl ?_|refine Tl ?_|refine sE rfl ?_|refine dG (by kernel_rfl) ?_|fail);(conv=>whnf)))
          refine bnd hc14 (fun y9 hy9 hc14 => ?_)
          refine Or.inl ⟨_, c_decomp_find _ _ _ hy9, rfl, ?_⟩
          have e := Option.some.inj hc14; subst e
          ((conv=>whnf);repeat((first|refine Ta ?_|refine Tz mix ?_|refine Tc ?_|refine Tb ?_|refine Td rfl ?_|refine Tl ?_|refine sE rfl ?_|refine dG (by kernel_rfl) ?_|fail);(conv=>whnf)))
          exact hn6 _ (y9, (IntKind.wrap .i64 (s4.2 + (1 : Int)))) hs6 (weak_gen [0] rfl rfl (storeLe.cons rfl (objLe.mk id id (rowLe_vals (valsLe.cons (cellsLe_refl rfl) valsLe.nil))) storeLe.nil) (slotsLe.cons (And.intro rfl (AV.Le.refl _)) (slotsLe.cons (And.intro rfl (AV.Le.refl _)) (slotsLe.cons (And.intro rfl (AV.Le.refl _)) slotsLe.nil))))
      · have e := Option.some.inj hc14; subst e
        have e := done_out hs6; subst e
        ((conv=>whnf);repeat((first|refine Ta ?_|refine Tz mix ?_|refine Tc ?_|refine Tb ?_|refine Td rfl ?_|refine Tl ?_|refine sE rfl ?_|refine dG (by kernel_rfl) ?_|fail);(conv=>whnf)))
        exact hn11 _ s4.2 h (weak_gen [] rfl rfl storeLe.nil (slotsLe.cons (And.intro rfl (AV.Le.refl _)) slotsLe.nil))
  · clear h h11
    intro s1 hc17
    have e := Option.some.inj hc17; subst e
    ((conv=>whnf);repeat((first|refine Ta ?_|refine Tz mix ?_|refine Tc ?_|refine Tb ?_|refine Td rfl ?_|refine Tl ?_|refine sE rfl ?_|refine dG (by kernel_rfl) ?_|fail);(conv=>whnf)))
    exact And.intro (AV.Le.refl _) rfl
theorem c_ranges_may (p_x : T_api_Range) (r : Bool) (h : m_ranges_may p_x = some r) : Contract pl 162 [(e_api_Range p_x)] [] (AV.bool r) [] := by
  refine contract_of .z Tryd.func162 rfl (by kernel_rfl) ?_
  ((conv=>whnf);repeat((first|refine Ta ?_|refine Tz mix ?_|refine Tc ?_|refine Tb ?_|refine Td rfl ?_|refine Tl ?_|refine sE rfl ?_|refine dG (by kernel_rfl) ?_|fail);(conv=>whnf)))
  refine br_b rfl h (fun c1 h => ?_) (fun c1 h => ?_)
  · ((conv=>whnf);repeat((first|refine Ta ?_|refine Tz mix ?_|refine Tc ?_|refine Tb ?_|refine Td rfl ?_|refine Tl ?_|refine sE rfl ?_|refine dG (by kernel_rfl) ?_|fail);(conv=>whnf)))
    refine br_b rfl h (fun c2 h => ?_) (fun c2 h => ?_)
    · ((conv=>whnf);repeat((first|refine Ta ?_|refine Tz mix ?_|refine Tc ?_|refine Tb ?_|refine Td rfl ?_|refine Tl ?_|refine sE rfl ?_|refine dG (by kernel_rfl) ?_|fail);(conv=>whnf)))
      refine br_b rfl h (fun c3 h => ?_) (fun c3 h => ?_)
      · ((conv=>whnf);repeat((first|refine Ta ?_|refine Tz mix ?_|refine Tc ?_|refine Tb ?_|refine Td rfl ?_|refine Tl ?_|refine sE rfl ?_|refine dG (by kernel_rfl) ?_|fail);(conv=>whnf)))
        refine br_b rfl h (fun c4 h => ?_) (fun c4 h => ?_)
        · have e := Option.some.inj h; subst e
          ((conv=>whnf);repeat((first|refine Ta ?_|refine Tz mix ?_|refine Tc ?_|refine Tb ?_|refine Td rfl ?_|refine Tl ?_|refine sE rfl ?_|refine dG (by kernel_rfl) ?_|fail);(conv=>whnf)))
          exact And.intro (AV.Le.refl _) rfl
        · have e := Option.some.inj h; subst e
          ((conv=>whnf);repeat((first|refine Ta ?_|refine Tz mix ?_|refine Tc ?_|refine Tb ?_|refine Td rfl ?_|refine Tl ?_|refine sE rfl ?_|refine dG (by kernel_rfl) ?_|fail);(conv=>whnf)))
          exact And.intro (AV.Le.refl _) rfl
      · have e := Option.some.inj h; subst e
        ((conv=>whnf);repeat((first|refine Ta ?_|refine Tz mix ?_|refine Tc ?_|refine Tb ?_|refine Td rfl ?_|refine Tl ?_|refine sE rfl ?_|refine dG (by kernel_rfl) ?_|fail);(conv=>whnf)))
        exact And.intro (AV.Le.refl _) rfl
    · have e := Option.some.inj h; subst e
      ((conv=>whnf);repeat((first|refine Ta ?_|refine Tz mix ?_|refine Tc ?_|refine Tb ?_|refine Td rfl ?_|refine Tl ?_|refine sE rfl ?_|refine dG (by kernel_rfl) ?_|fail);(conv=>whnf)))
      exact And.intro (AV.Le.refl _) rfl
  · have e := Option.some.inj h; subst e
    ((conv=>whnf);repeat((first|refine Ta ?_|refine Tz mix ?_|refine Tc ?_|refine Tb ?_|refine Td rfl ?_|refine Tl ?_|refine sE rfl ?_|refine dG (by kernel_rfl) ?_|fail);(conv=>whnf)))
    exact And.intro (AV.Le.refl _) rfl
theorem c_ranges_fault (p_at : Int) (p_e : Er) (r : Er) (h : m_ranges_fault p_at p_e = some r) : Contract pl 131 [(AV.int .i64 p_at), (AV.err p_e)] [] (AV.err r) [] := by
  refine contract_of .z Tryd.func131 rfl (by kernel_rfl) ?_
  have e := Option.some.inj h; subst e
  ((conv=>whnf);repeat((first|refine Ta ?_|refine Tz mix ?_|refine Tc ?_|refine Tb ?_|refine Td rfl ?_|refine Tl ?_|refine sE rfl ?_|refine dG (by kernel_rfl) ?_|fail);(conv=>whnf)))
  exact And.intro (AV.Le.err_box (AV.Le.refl _)) rfl
end Go.Proofs.YtjhgaacecfmadaaDoor
