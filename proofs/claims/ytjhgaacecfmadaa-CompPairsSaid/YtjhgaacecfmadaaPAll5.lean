/- Runes taken apart: the program's and the document's; what a norm that is right has. No condition. -/
import Derived.Test.YtjhgaacecfmadaaPOrder
namespace Go.Proofs.Ytjhgaacecfmadaa
open Go Go.SE
set_option linter.unusedVariables false
set_option linter.unusedSimpArgs false
set_option maxHeartbeats 1000000
theorem fnd_mem {l : List T_api_Range} {r : Int} : (∃ x ∈ l, fnd l r = (x.f_Value, true) ∧ x.f_Lo ≤ r ∧ r ≤ x.f_Hi) ∨ fnd l r = (0, false) := by
  unfold fnd
  cases h : l.find? (hitR r) with
  | none => exact .inr rfl
  | some x =>
    have h1 := List.mem_of_find?_eq_some h
    have h2 := List.find?_some h
    unfold hitR at h2
    simp only [Bool.and_eq_true, decide_eq_true_eq] at h2
    exact .inl ⟨x, h1, rfl, h2⟩
structure Good (t : T_api_Norm) : Prop where
  r4 : Right04 t
  sound : Sound t
  clen : t.f_Classes.length ≤ 2000
  cord : ordered t.f_Classes
  cmay : ∀ x ∈ t.f_Classes, mayB x = true
  exR : risingL t.f_Excluded
theorem Good.of {t : T_api_Norm} (h : Right04 t) : Good t := by
  have hR := chk_right h.cls
  exact ⟨h, Sound.of h, hR.1, hR.2.1, hR.2.2, ex_rising h.exV⟩
theorem Good.cls {t : T_api_Norm} (g : Good t) : ClsOf t (clsR t) where
  prog x := dclass_eq t x ⟨g.cord, g.clen⟩
  ref x := class_eq t x g.clen
  low x := by
    unfold clsR
    rcases fnd_mem (l := t.f_Classes) (r := x) with ⟨y, hy, e, _⟩ | e
    · rw [e]
      have := g.cmay y hy
      unfold mayB at this
      simp only [Bool.and_eq_true, decide_eq_true_eq] at this
      exact this.1.2
    · rw [e]; exact Int.le_refl _
  high x := by
    unfold clsR
    rcases fnd_mem (l := t.f_Classes) (r := x) with ⟨y, hy, e, _⟩ | e
    · rw [e]
      have := g.cmay y hy
      unfold mayB at this
      simp only [Bool.and_eq_true, decide_eq_true_eq] at this
      exact this.2
    · rw [e]; show (0 : Int) ≤ 999999; omega
/-- A rune's parts. -/
noncomputable def oneL (t : T_api_Norm) (r : Int) : List Int := (m_eponymref04_One t r).getD []
theorem Good.one {t : T_api_Norm} (g : Good t) (r : Int) : (oneL t r).length ≤ 100 ∧ m_decomp_One t r = some (oneL t r) ∧ m_eponymref04_One t r = some (oneL t r) := by
  obtain ⟨l, h1, h2, h3⟩ := ones_eq g.sound r
  have e : oneL t r = l := by unfold oneL; rw [h3]; rfl
  rw [e]
  exact ⟨h1, h2, h3⟩
noncomputable def flatL (t : T_api_Norm) (l : List Int) : List Int := l.flatMap (oneL t)
noncomputable def allS (t : T_api_Norm) (l : List Int) : List Int := ordS (clsR t) (flatL t l)
theorem flat_len {t : T_api_Norm} (g : Good t) : ∀ (l : List Int), (flatL t l).length ≤ 100 * l.length
  | [] => by simp [flatL]
  | x :: l => by
    have h1 := (g.one x).1
    have h2 := flat_len g l
    unfold flatL at h2 ⊢
    rw [List.flatMap_cons, List.length_append, List.length_cons]
    omega
theorem flat_app (t : T_api_Norm) (l m : List Int) : flatL t (l ++ m) = flatL t l ++ flatL t m := by simp [flatL]
theorem flat_snoc (t : T_api_Norm) (l : List Int) (x : Int) : flatL t (l ++ [x]) = flatL t l ++ oneL t x := by simp [flatL]
theorem allS_len {t : T_api_Norm} (g : Good t) (l : List Int) : (allS t l).length ≤ 100 * l.length := by
  unfold allS; rw [ordS_len]; exact flat_len g l
theorem all_prog {t : T_api_Norm} (g : Good t) (l : List Int) (hl : l.length ≤ 100000) : m_decomp_All t l = some (allS t l) := by
  have loop : ∀ (T D : List Int), l = D ++ T → iter (m_decomp_All_L6 t l) (flatL t D, (D.length : Int)) = some (flatL t l) := by
    intro T
    induction T with
    | nil =>
      intro D hD
      rw [List.append_nil] at hD
      subst hD
      have body : m_decomp_All_L6 t l (flatL t l, (l.length : Int)) = some (.done (flatL t l)) := by
        unfold m_decomp_All_L6
        simp
      rw [iter_step, body]
    | cons x T ih =>
      intro D hD
      have hx : l.getD D.length 0 = x := at_eq hD rfl
      have hlen : D.length < l.length := by rw [hD]; simp
      have h1 := flat_len g D
      have h2 := (g.one x).1
      have body : m_decomp_All_L6 t l (flatL t D, (D.length : Int)) = some (.next (flatL t (D ++ [x]), ((D ++ [x]).length : Int))) := by
        unfold m_decomp_All_L6
        simp only [decide_eq_true (show (D.length : Int) < (l.length : Int) by omega), cond_true, if_pos (show 0 ≤ (D.length : Int) ∧ (D.length : Int) < (l.length : Int) by omega), pos_toNat, hx, (g.one x).2.1, bind_some']
        rw [if_pos (by omega), up (by omega), flat_snoc]
        simp
      rw [iter_step, body]
      exact ih (D ++ [x]) (by rw [hD]; simp)
  unfold m_decomp_All
  have := loop l [] rfl
  simp only [List.length_nil] at this
  rw [show flatL t [] = [] from rfl, show ((0 : Nat) : Int) = 0 from rfl] at this
  have hf := flat_len g l
  rw [this, bind_some']
  unfold m_decomp_All_K2
  rw [order_prog g.cls _ (by omega)]
  rfl
theorem all_ref {t : T_api_Norm} (g : Good t) (l : List Int) (hl : l.length ≤ 100000) : m_eponymref04_All t l = some (allS t l) := by
  have loop : ∀ (T D : List Int), l = D ++ T → iter (m_eponymref04_All_L6 t l) (flatL t D, (D.length : Int)) = some (flatL t l) := by
    intro T
    induction T with
    | nil =>
      intro D hD
      rw [List.append_nil] at hD
      subst hD
      have body : m_eponymref04_All_L6 t l (flatL t l, (l.length : Int)) = some (.done (flatL t l)) := by
        unfold m_eponymref04_All_L6
        simp
      rw [iter_step, body]
    | cons x T ih =>
      intro D hD
      have hx : l.getD D.length 0 = x := at_eq hD rfl
      have hlen : D.length < l.length := by rw [hD]; simp
      have h1 := flat_len g D
      have h2 := (g.one x).1
      have body : m_eponymref04_All_L6 t l (flatL t D, (D.length : Int)) = some (.next (flatL t (D ++ [x]), ((D ++ [x]).length : Int))) := by
        unfold m_eponymref04_All_L6
        simp only [decide_eq_true (show (D.length : Int) < (l.length : Int) by omega), cond_true, if_pos (show 0 ≤ (D.length : Int) ∧ (D.length : Int) < (l.length : Int) by omega), pos_toNat, hx, (g.one x).2.2, bind_some']
        rw [if_pos (by omega), up (by omega), flat_snoc]
        simp
      rw [iter_step, body]
      exact ih (D ++ [x]) (by rw [hD]; simp)
  unfold m_eponymref04_All
  have := loop l [] rfl
  simp only [List.length_nil] at this
  rw [show flatL t [] = [] from rfl, show ((0 : Nat) : Int) = 0 from rfl] at this
  have hf := flat_len g l
  rw [this, bind_some']
  unfold m_eponymref04_All_K2
  rw [order_ref g.cls _ (by omega)]
  rfl
/-- A rune without a row stands for itself. -/
theorem one_self {t : T_api_Norm} (g : Good t) {r : Int} (hs : ¬ (44032 ≤ r ∧ r ≤ 55203)) (hr : rowIdx t r = -1) : oneL t r = [r] := by
  unfold oneL m_eponymref04_One
  rw [show (50 : Nat) = 49 + 1 from rfl, m_eponymref04_One_n, if_neg hs, rowIdx_eq t r g.sound.len, hr]
  rfl
theorem demo4_good : Good demo4 := Good.of (chk04_right (by rw [demo4_chk]))
end Go.Proofs.Ytjhgaacecfmadaa
