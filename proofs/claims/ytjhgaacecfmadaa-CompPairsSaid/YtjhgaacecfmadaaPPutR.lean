/- Runes put together: the document's answer; what is awake. No condition. -/
import Derived.Test.YtjhgaacecfmadaaPPut
namespace Go.Proofs.Ytjhgaacecfmadaa
open Go Go.SE
set_option linter.unusedVariables false
set_option linter.unusedSimpArgs false
set_option maxHeartbeats 1000000
/-- Back over what has a class. -/
theorem back_loop {t : T_api_Norm} (g : Good t) (s5 : List Int × Int) (A : List Int) (hlen : s5.1.length < 1000000) (hA : ∀ z, A.getLast? = some z → ¬ 0 < clsR t z) : ∀ (k : Nat) (M R : List Int), M.length = k → (∀ x ∈ M, 0 < clsR t x) → s5.1 = A ++ (M ++ R) →
    iter (m_eponymref05_Put_L28 t s5) ((A.length : Int) + (k : Int) - 1) = some ((A.length : Int) - 1) := by
  intro k
  induction k with
  | zero =>
    intro M R hM hp hs
    have : M = [] := List.eq_nil_of_length_eq_zero hM
    subst this
    have body : m_eponymref05_Put_L28 t s5 ((A.length : Int) - 1) = some (.done ((A.length : Int) - 1)) := by
      unfold m_eponymref05_Put_L28 m_eponymref05_Put_K31
      cases h : A.getLast? with
      | none =>
        rw [List.getLast?_eq_none_iff] at h
        subst h
        rfl
      | some z =>
        obtain ⟨A', rfl⟩ := List.getLast?_eq_some_iff.1 h
        have hz := hA z h
        have e : (((A' ++ [z]).length : Nat) : Int) - 1 = (A'.length : Int) := by simp
        have gz : s5.1.getD A'.length 0 = z := at_eq (P := A') (Q := R) (by rw [hs]; simp) rfl
        have hl : A'.length < s5.1.length := by rw [hs]; simp
        rw [e, decide_eq_true (by omega), cond_true, if_pos ⟨by omega, by omega⟩, pos_toNat, gz, g.cls.ref, bind_some', decide_eq_false hz, bind_some', cond_false]
    have e : (A.length : Int) + ((0 : Nat) : Int) - 1 = (A.length : Int) - 1 := by omega
    rw [e, iter_step, body]
  | succ k ih =>
    intro M R hM hp hs
    obtain ⟨M', x, rfl⟩ : ∃ M' x, M = M' ++ [x] := by
      cases h : M.getLast? with
      | none => rw [List.getLast?_eq_none_iff] at h; subst h; simp at hM
      | some x => obtain ⟨L', rfl⟩ := List.getLast?_eq_some_iff.1 h; exact ⟨L', x, rfl⟩
    have hM' : M'.length = k := by simpa using hM
    have e : (A.length : Int) + ((k + 1 : Nat) : Int) - 1 = ((A.length + k : Nat) : Int) := by omega
    have gx : s5.1.getD (A.length + k) 0 = x := at_eq (P := A ++ M') (Q := R) (by rw [hs]; simp) (by simp; omega)
    have hl : A.length + k < s5.1.length := by rw [hs]; simp; omega
    have body : m_eponymref05_Put_L28 t s5 ((A.length + k : Nat) : Int) = some (.next ((A.length : Int) + (k : Int) - 1)) := by
      unfold m_eponymref05_Put_L28 m_eponymref05_Put_K31
      rw [decide_eq_true (by omega), cond_true, if_pos ⟨by omega, by omega⟩, pos_toNat, gx, g.cls.ref, bind_some', decide_eq_true (show clsR t x > 0 from hp x (by simp)), bind_some', cond_true, w64 (by omega) (by omega)]
      congr 2
    rw [e, iter_step, body]
    exact ih M' ([x] ++ R) hM' (fun y hy => hp y (by simp [hy])) (by rw [hs]; simp)
/-- Is each behind it of a lesser class? -/
theorem tried_loop {t : T_api_Norm} (g : Good t) (l : List Int) (s5 : List Int × Int) (r : Int) (i : Nat) (hi : s5.2 = (i : Int)) (hil : i < l.length) (hr : l.getD i 0 = r) (hl : l.length < 1000000) (hlen : s5.1.length < 1000000) : ∀ (M A : List Int), s5.1 = A ++ M →
    iter (m_eponymref05_Put_L19 t l s5) (true, (A.length : Int)) = some (decide (∀ x ∈ M, clsR t x < clsR t r)) := by
  have stop : ∀ k : Int, iter (m_eponymref05_Put_L19 t l s5) (false, k) = some false := fun k => by
    have body : m_eponymref05_Put_L19 t l s5 (false, k) = some (.done false) := rfl
    rw [iter_step, body]
  intro M
  induction M with
  | nil =>
    intro A hs
    have body : m_eponymref05_Put_L19 t l s5 (true, (A.length : Int)) = some (.done true) := by
      unfold m_eponymref05_Put_L19 m_eponymref05_Put_K22
      rw [hs]
      simp
    rw [iter_step, body]
    simp
  | cons x M ih =>
    intro A hs
    have gx : s5.1.getD A.length 0 = x := at_eq hs rfl
    have hl2 : A.length < s5.1.length := by rw [hs]; simp
    have body : m_eponymref05_Put_L19 t l s5 (true, (A.length : Int)) = some (.next (decide (clsR t x < clsR t r), ((A.length + 1 : Nat) : Int))) := by
      unfold m_eponymref05_Put_L19 m_eponymref05_Put_K22
      simp only [cond_true, decide_eq_true (show (A.length : Int) < (s5.1.length : Int) by omega), bind_some', if_pos (show 0 ≤ (A.length : Int) ∧ (A.length : Int) < (s5.1.length : Int) by omega), pos_toNat, gx, g.cls.ref, hi, if_pos (show 0 ≤ (i : Int) ∧ (i : Int) < (l.length : Int) by omega), hr]
      rw [up (by omega)]
      by_cases hc : clsR t x < clsR t r
      · rw [decide_eq_false (show ¬ clsR t x ≥ clsR t r by omega), cond_false, decide_eq_true hc]
      · rw [decide_eq_true (show clsR t x ≥ clsR t r by omega), cond_true, decide_eq_false hc]
    rw [iter_step, body]
    by_cases hc : clsR t x < clsR t r
    · rw [decide_eq_true hc]
      have := ih (A ++ [x]) (by rw [hs]; simp)
      rw [show (A ++ [x]).length = A.length + 1 by simp] at this
      simp only
      rw [this]
      congr 1
      refine decide_eq_decide.2 ⟨fun h y hy => ?_, fun h y hy => h y (by simp [hy])⟩
      rcases List.mem_cons.1 hy with rfl | hy
      · exact hc
      · exact h y hy
    · rw [decide_eq_false hc]
      simp only
      rw [stop]
      rw [decide_eq_false (fun h => hc (h x (by simp)))]
theorem step_ref {t : T_api_Norm} (g : Good t) (l : List Int) (hl : l.length ≤ 100000) {s : PS} (h : PSok t s) {r : Int} (hr : r32 r) (hlen : (psOut s).length ≤ l.length) (i : Nat) (hil : i < l.length) (hx : l.getD i 0 = r) :
    m_eponymref05_Put_L6 t l (psOut s, (i : Int)) = some (.next (psOut (psStep t s r), ((i + 1 : Nat) : Int))) := by
  unfold m_eponymref05_Put_L6
  simp only [decide_eq_true (show (i : Int) < (l.length : Int) by omega), cond_true]
  rw [up (by omega)]
  have addc : ∀ at_ : Int, m_eponymref05_Put_K15 l (psOut s, (i : Int)) at_ (-1) = some (psOut s ++ [r]) := fun at_ => by
    unfold m_eponymref05_Put_K15
    rw [decide_eq_false (by omega), cond_false]
    simp only [pos_toNat, hx]
    rw [if_pos ⟨by omega, by omega⟩, if_pos (by omega)]
  cases hst : s.st with
  | none =>
    have hd := h.none hst
    have ho : psOut s = [] ++ (s.mid ++ []) := by simp [psOut, hst, hd]
    have bk := back_loop g (psOut s, (i : Int)) [] (by simp only; omega) (fun z hz => by cases hz) s.mid.length s.mid [] rfl h.mid ho
    have hlo : (psOut s).length = s.mid.length := by rw [ho]; simp
    have es : psStep t s r = psAdd t s r := by unfold psStep; rw [hst]
    rw [w64 (by omega) (by omega), show ((psOut s).length : Int) - 1 = ((([] : List Int).length : Nat) : Int) + (s.mid.length : Int) - 1 by rw [hlo]; simp, bk, bind_some']
    unfold m_eponymref05_Put_K11
    have stop : iter (m_eponymref05_Put_L19 t l (psOut s, (i : Int))) (false, IntKind.wrap .i64 (((([] : List Int).length : Nat) : Int) - 1 + 1)) = some false := by
      rw [iter_step, show m_eponymref05_Put_L19 t l (psOut s, (i : Int)) (false, IntKind.wrap .i64 (((([] : List Int).length : Nat) : Int) - 1 + 1)) = some (.done false) from rfl]
    rw [show decide (((([] : List Int).length : Nat) : Int) - 1 ≥ 0) = false from rfl, stop, bind_some']
    unfold m_eponymref05_Put_K13
    rw [cond_false, bind_some', addc, bind_some', es, psAdd_out]
  | some z =>
    have ho : psOut s = (s.done ++ [z]) ++ (s.mid ++ []) := by simp [psOut, hst]
    have ho2 : psOut s = s.done ++ z :: s.mid := by simp [psOut, hst]
    have hlo : (psOut s).length = s.done.length + 1 + s.mid.length := by rw [ho2]; simp; omega
    have hz0 := h.st z hst
    have hz : (psOut s).getD s.done.length 0 = z := at_eq ho2 rfl
    have hzr : r32 z := h.rng z (by rw [ho2]; simp)
    have bk := back_loop g (psOut s, (i : Int)) (s.done ++ [z]) (by simp only; omega) (fun w hw => by
      rw [List.getLast?_append] at hw
      simp at hw
      subst hw
      omega) s.mid.length s.mid [] rfl h.mid ho
    have hdl : (((s.done ++ [z]).length : Nat) : Int) - 1 = (s.done.length : Int) := by simp
    rw [w64 (by omega) (by omega), show ((psOut s).length : Int) - 1 = (((s.done ++ [z]).length : Nat) : Int) + (s.mid.length : Int) - 1 by rw [hlo]; simp, bk, bind_some', hdl]
    unfold m_eponymref05_Put_K11
    have tr := tried_loop g l (psOut s, (i : Int)) r i rfl hil hx (by omega) (by simp only; omega) s.mid (s.done ++ [z]) (by rw [ho]; simp)
    rw [decide_eq_true (show (s.done.length : Int) ≥ 0 by omega), up (by omega), show s.done.length + 1 = (s.done ++ [z]).length by simp, tr, bind_some']
    unfold m_eponymref05_Put_K13
    by_cases hmid : ∀ x ∈ s.mid, clsR t x < clsR t r
    · rw [decide_eq_true hmid, cond_true]
      simp only [pos_toNat, hx, hz]
      rw [if_pos ⟨by omega, by omega⟩, if_pos ⟨by omega, by omega⟩, pair_ref g hzr hr, bind_some', bind_some']
      by_cases hp : 0 ≤ pairF t z r
      · have es : psStep t s r = ⟨s.done, some (pairF t z r), s.mid⟩ := by unfold psStep; rw [hst]; exact if_pos ⟨hmid, hp⟩
        unfold m_eponymref05_Put_K15
        simp only [pos_toNat]
        rw [decide_eq_true (show pairF t z r ≥ 0 from hp), cond_true, if_pos ⟨by omega, by omega⟩, bind_some', es]
        have e2 : (psOut s).set s.done.length (pairF t z r) = s.done ++ pairF t z r :: s.mid := by rw [ho2]; simp
        rw [e2]
        simp [psOut]
      · have es : psStep t s r = psAdd t s r := by unfold psStep; rw [hst]; exact if_neg (fun hh => hp hh.2)
        have : m_eponymref05_Put_K15 l (psOut s, (i : Int)) (s.done.length : Int) (pairF t z r) = m_eponymref05_Put_K15 l (psOut s, (i : Int)) (s.done.length : Int) (-1) := by
          unfold m_eponymref05_Put_K15
          rw [decide_eq_false (show ¬ pairF t z r ≥ 0 from hp), decide_eq_false (show ¬ (-1 : Int) ≥ 0 by omega)]
          rfl
        rw [this, addc, bind_some', es, psAdd_out]
    · have es : psStep t s r = psAdd t s r := by unfold psStep; rw [hst]; exact if_neg (fun hh => hmid hh.1)
      rw [decide_eq_false hmid, cond_false, bind_some', addc, bind_some', es, psAdd_out]
theorem put_ref {t : T_api_Norm} (g : Good t) (l : List Int) (hl : l.length ≤ 100000) (hr : ∀ x ∈ l, r32 x) : m_eponymref05_Put t l = some (putS t l) := by
  have loop : ∀ (T D : List Int) (s : PS), l = D ++ T → PSok t s → (psOut s).length ≤ D.length → iter (m_eponymref05_Put_L6 t l) (psOut s, (D.length : Int)) = some (psOut (T.foldl (psStep t) s)) := by
    intro T
    induction T with
    | nil =>
      intro D s hD hs hlen
      rw [List.append_nil] at hD
      subst hD
      have body : m_eponymref05_Put_L6 t l (psOut s, (l.length : Int)) = some (.done (psOut s)) := by
        unfold m_eponymref05_Put_L6
        simp
      rw [iter_step, body]
      rfl
    | cons x T ih =>
      intro D s hD hs hlen
      have hx : l.getD D.length 0 = x := at_eq hD rfl
      have hll : D.length < l.length := by rw [hD]; simp
      have hxr : r32 x := hr x (by rw [hD]; simp)
      rw [iter_step, step_ref g l hl hs hxr (by omega) D.length hll hx]
      have := psStep_len t s x
      have := ih (D ++ [x]) (psStep t s x) (by rw [hD]; simp) (psStep_ok g hs hxr) (by simp; omega)
      rw [show (D ++ [x]).length = D.length + 1 by simp] at this
      exact this
  unfold m_eponymref05_Put
  have := loop l [] ps0 rfl (ps0_ok t) (by simp [psOut, ps0])
  simp only [List.length_nil] at this
  rw [show psOut ps0 = [] from rfl, show ((0 : Nat) : Int) = 0 from rfl] at this
  rw [this]
  rfl
/-! ### The kinds of the parts -/
theorem ord_mem {c : Int → Int} : ∀ (l acc : List Int) (x : Int), x ∈ ordA c acc l ↔ x ∈ acc ∨ x ∈ l
  | [], acc, x => by simp [ordA, ssort_mem]
  | z :: l, acc, x => by
    rw [ordA]
    split
    · rw [ord_mem l]; simp [or_assoc]
    · rw [List.mem_append, ssort_mem, List.mem_cons, ord_mem l]; simp
theorem one_n_r32 {t : T_api_Norm} (g : Good t) : ∀ (k : Nat) (r : Int) (l : List Int), r32 r → m_eponymref04_One_n t k r = some l → ∀ x ∈ l, r32 x := by
  intro k
  induction k with
  | zero => intro r l hr h; cases h
  | succ k ih =>
    intro r l hr h
    rw [m_eponymref04_One_n] at h
    split at h
    · rename_i hs
      cases h
      intro x hx
      unfold r32
      split at hx
      · simp at hx; omega
      · simp at hx; omega
    · rw [rowIdx_eq t r g.sound.len, bind_some'] at h
      split at h
      · cases h
        intro x hx
        simp at hx
        subst hx
        exact hr
      · split at h
        · split at h
          · rename_i h1 h2 h3
            have hi : (rowIdx t r).toNat < t.f_Rows.length := by omega
            have hto := rowE_to (g.sound.row _ hi)
            have ok : ∀ j, j < (t.f_Rows.getD (rowIdx t r).toNat d_api_Row).f_To.length → r32 ((t.f_Rows.getD (rowIdx t r).toNat d_api_Row).f_To.getD j 0) := fun j hj => by
              have := List.any_eq_false.1 hto.2.2.1 _ (getD_mem (d := (0 : Int)) hj)
              exact right_range (by simpa using this)
            cases hp : m_eponymref04_One_n t k ((t.f_Rows.getD (rowIdx t r).toNat d_api_Row).f_To.getD 0 0) with
            | none => rw [hp] at h; cases h
            | some out =>
              rw [hp, bind_some'] at h
              have h4 := ih _ out (ok 0 h3) hp
              split at h
              · split at h
                · cases h
                  intro x hx
                  rcases List.mem_append.1 hx with hx | hx
                  · exact h4 x hx
                  · simp at hx; subst hx; rw [← List.getD_eq_getElem?_getD]; exact ok 1 (by omega)
                · cases h
              · cases h; exact h4
          · cases h
        · cases h
theorem one_r32 {t : T_api_Norm} (g : Good t) {r : Int} (hr : r32 r) : ∀ x ∈ oneL t r, r32 x := one_n_r32 g 50 r _ hr (g.one r).2.2
theorem allS_r32 {t : T_api_Norm} (g : Good t) {l : List Int} (hr : ∀ x ∈ l, r32 x) : ∀ x ∈ allS t l, r32 x := fun x hx => by
  unfold allS ordS at hx
  rw [ord_mem] at hx
  simp only [List.not_mem_nil, false_or] at hx
  obtain ⟨y, hy, hxy⟩ := List.mem_flatMap.1 hx
  exact one_r32 g (hr y hy) x hxy
/-- The composed form. -/
noncomputable def compS (t : T_api_Norm) (l : List Int) : List Int := putS t (allS t l)
theorem comp_all_prog {t : T_api_Norm} (g : Good t) (l : List Int) (hl : l.length ≤ 1000) (hr : ∀ x ∈ l, r32 x) : m_comp_All t l = some (compS t l) := by
  have := allS_len g l
  unfold m_comp_All compS
  rw [all_prog g l (by omega), bind_some', put_prog g _ (by omega) (allS_r32 g hr)]
  rfl
theorem comp_all_ref {t : T_api_Norm} (g : Good t) (l : List Int) (hl : l.length ≤ 1000) (hr : ∀ x ∈ l, r32 x) : m_eponymref05_All t l = some (compS t l) := by
  have := allS_len g l
  unfold m_eponymref05_All compS
  rw [all_ref g l (by omega), bind_some', put_ref g _ (by omega) (allS_r32 g hr)]
  rfl
theorem putS_len (t : T_api_Norm) (l : List Int) : (putS t l).length ≤ l.length := by
  have key : ∀ (l : List Int) (s : PS), (psOut (l.foldl (psStep t) s)).length ≤ (psOut s).length + l.length := by
    intro l
    induction l with
    | nil => intro s; simp
    | cons x l ih =>
      intro s
      have h1 := ih (psStep t s x)
      have h2 := psStep_len t s x
      simp only [List.foldl_cons, List.length_cons]
      omega
  have := key l ps0
  simpa [putS, psOut, ps0] using this
theorem compS_len {t : T_api_Norm} (g : Good t) (l : List Int) : (compS t l).length ≤ 100 * l.length := Nat.le_trans (putS_len t _) (allS_len g l)
/-! ### What is awake -/
theorem demo_comp1 : compS demo4 [101, 769] = [233] := by
  have e : flatL demo4 [101, 769] = [101, 769] := by
    unfold flatL
    simp only [List.flatMap_cons, List.flatMap_nil]
    rw [one_self demo4_good (by omega) (by decide), one_self demo4_good (by omega) (by decide)]
    rfl
  unfold compS allS
  rw [e]
  decide
theorem demo_comp2 : compS demo4 [4352, 4449, 4520] = [44033] := by
  have e : flatL demo4 [4352, 4449, 4520] = [4352, 4449, 4520] := by
    unfold flatL
    simp only [List.flatMap_cons, List.flatMap_nil]
    rw [one_self demo4_good (by omega) (by decide), one_self demo4_good (by omega) (by decide), one_self demo4_good (by omega) (by decide)]
    rfl
  unfold compS allS
  rw [e]
  decide
theorem awake05 : m_eponymlaw05_awake = some true := by
  have e : m_eponymlaw05_awake = Option.bind (m_comp_All demo4 [101, 769]) fun y1 => Option.bind (m_eponymlaw01_Same y1 [233]) fun y2 => bif y2 then Option.bind (m_comp_All demo4 [4352, 4449, 4520]) fun y3 => Option.bind (m_eponymlaw01_Same y3 [44033]) fun y4 => some y4 else some false := rfl
  rw [e, comp_all_prog demo4_good _ (by decide) (by intro x hx; simp at hx; unfold r32; omega), comp_all_prog demo4_good _ (by decide) (by intro x hx; simp at hx; unfold r32; omega), demo_comp1, demo_comp2]
  simp only [bind_some']
  rw [same_eq _ _ (by decide), same_eq _ _ (by decide)]
  rfl
end Go.Proofs.Ytjhgaacecfmadaa
