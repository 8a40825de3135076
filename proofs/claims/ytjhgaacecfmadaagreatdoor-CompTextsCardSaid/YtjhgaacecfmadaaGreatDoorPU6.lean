/- The law of texts put together. No condition. -/
import Derived.Test.YtjhgaacecfmadaaGreatDoorPU5
import Derived.Test.YtjhgaacecfmadaaGreatDoorPPutR
import Derived.Test.YtjhgaacecfmadaaGreatDoorPLaw4A
namespace Go.Proofs.YtjhgaacecfmadaaGreatDoor
open Go Go.SE
set_option linter.unusedVariables false
set_option linter.unusedSimpArgs false
theorem rightS_B (x : Int) : rightS x = rightB x := by
  unfold rightS rightB
  rw [Bool.eq_iff_iff]
  simp only [decide_eq_true_eq, Bool.and_eq_true, Bool.not_eq_true', Bool.and_eq_false_iff, decide_eq_false_iff_not]
  omega
theorem right_of {x : Int} (h0 : 0 ≤ x) (h1 : x ≤ 55295) : rightB x = true := by
  rw [← rightS_B]
  unfold rightS
  rw [decide_eq_true_eq]
  omega
theorem one_n_right {t : T_api_Norm} (g : Good t) : ∀ (k : Nat) (r : Int) (l : List Int), rightB r = true → m_eponymref04_One_n t k r = some l → ∀ x ∈ l, rightB x = true := by
  intro k
  induction k with
  | zero => intro r l hr h; cases h
  | succ k ih =>
    intro r l hr h
    rw [m_eponymref04_One_n] at h
    split at h
    · rename_i hs
      cases h
      intro x hx
      split at hx
      · simp at hx; exact right_of (by omega) (by omega)
      · simp at hx; exact right_of (by omega) (by omega)
    · rw [rowIdx_eq t r g.sound.len, bind_some'] at h
      split at h
      · cases h
        intro x hx
        simp at hx
        subst hx
        exact hr
      · split at h
        · split at h
          · rename_i h1 h2 h3
            have hi : (rowIdx t r).toNat < t.f_Rows.length := by omega
            have hto := rowE_to (g.sound.row _ hi)
            have ok : ∀ j, j < (t.f_Rows.getD (rowIdx t r).toNat d_api_Row).f_To.length → rightB ((t.f_Rows.getD (rowIdx t r).toNat d_api_Row).f_To.getD j 0) = true := fun j hj => by
              have := List.any_eq_false.1 hto.2.2.1 _ (getD_mem (d := (0 : Int)) hj)
              unfold badTo at this
              simp only [Bool.or_eq_true, Bool.not_eq_true', not_or, Bool.not_eq_false] at this
              exact this.1
            cases hp : m_eponymref04_One_n t k ((t.f_Rows.getD (rowIdx t r).toNat d_api_Row).f_To.getD 0 0) with
            | none => rw [hp] at h; cases h
            | some out =>
              rw [hp, bind_some'] at h
              have h4 := ih _ out (ok 0 h3) hp
              split at h
              · split at h
                · cases h
                  intro x hx
                  rcases List.mem_append.1 hx with hx | hx
                  · exact h4 x hx
                  · simp at hx; subst hx; rw [← List.getD_eq_getElem?_getD]; exact ok 1 (by omega)
                · cases h
              · cases h; exact h4
          · cases h
        · cases h
theorem allS_right {t : T_api_Norm} (g : Good t) {l : List Int} (hr : ∀ x ∈ l, rightB x = true) : ∀ x ∈ allS t l, rightB x = true := fun x hx => by
  unfold allS ordS at hx
  rw [ord_mem] at hx
  rcases hx with hx | hx
  · cases hx
  · unfold flatL at hx
    obtain ⟨r, hrl, hx⟩ := List.mem_flatMap.1 hx
    exact one_n_right g 50 r _ (hr r hrl) (g.one r).2.2 x hx
theorem pairF_right {t : T_api_Norm} (g : Good t) {a b : Int} (h : 0 ≤ pairF t a b) : rightB (pairF t a b) = true := by
  by_cases hh : 0 ≤ hangF a b
  · have e : pairF t a b = hangF a b := if_pos hh
    rw [e]
    unfold hangF at hh ⊢
    split
    · exact right_of (by omega) (by omega)
    · split
      · exact right_of (by omega) (by omega)
      · rename_i h1 h2; rw [if_neg h1, if_neg h2] at hh; omega
  · have e : pairF t a b = (rowPair t a b).getD (-1) := if_neg hh
    rw [e] at h ⊢
    cases hp : rowPair t a b with
    | none => rw [hp] at h; simp at h
    | some x =>
      obtain ⟨j, _, hj, h1, _⟩ := firstSome_some hp
      split at h1
      · cases h1
        exact (from_right g (by omega)).1
      · cases h1
theorem putS_right {t : T_api_Norm} (g : Good t) {l : List Int} (hr : ∀ x ∈ l, rightB x = true) : ∀ x ∈ putS t l, rightB x = true := by
  have key : ∀ (l : List Int) (s : PS), (∀ x ∈ l, rightB x = true) → (∀ x ∈ psOut s, rightB x = true) → ∀ x ∈ psOut (l.foldl (psStep t) s), rightB x = true := by
    intro l
    induction l with
    | nil => intro s _ h; exact h
    | cons r l ih =>
      intro s hl hs
      refine ih (psStep t s r) (fun x hx => hl x (List.mem_cons_of_mem _ hx)) ?_
      have add : ∀ x ∈ psOut (psAdd t s r), rightB x = true := fun x hx => by
        rw [psAdd_out] at hx
        rcases List.mem_append.1 hx with hx | hx
        · exact hs x hx
        · simp at hx; subst hx; exact hl _ (List.mem_cons_self ..)
      unfold psStep
      split
      · rename_i z hz
        split
        · rename_i hc
          intro x hx
          simp only [psOut, Option.toList_some, List.mem_append, List.mem_singleton] at hx
          rcases hx with hx | rfl | hx
          · exact hs x (by simp [psOut, hx])
          · exact pairF_right g hc.2
          · exact hs x (by simp [psOut, hx])
        · exact add
      · exact add
  exact key l ps0 hr fun x hx => by simp [psOut, ps0] at hx
theorem compS_right {t : T_api_Norm} (g : Good t) {l : List Int} (hr : ∀ x ∈ l, rightB x = true) : ∀ x ∈ compS t l, rightB x = true := putS_right g (allS_right g hr)
theorem is_byte (at_ : Int) : m_eponymlaw01_Is (.box 51 at_ (.sent 2)) at_ 1 = some true := is_fault (by decide) rfl (by decide) at_
theorem is_end (at_ : Int) : m_eponymlaw01_Is (.box 51 at_ (.sent 3)) at_ 2 = some true := is_fault (by decide) rfl (by decide) at_
theorem is_utf {c : Int} (h : c = 0 ∨ c = 1 ∨ c = 2) (at_ : Int) : m_eponymlaw01_Is (utfEr c at_) at_ c = some true := by
  rcases h with rfl | rfl | rfl
  · exact is_nil at_
  · exact is_byte at_
  · exact is_end at_
/-- The composed forms of a text. -/
theorem text_both {t : T_api_Norm} (g : Good t) (s : ByteArray) (hs : s.size ≤ 1000) : ∃ y : ByteArray × Int × Int, m_eponymref05_Text t s = some y ∧ m_comp_Text t s = some (y.1, utfEr y.2.2 y.2.1) ∧ (y.2.2 = 0 ∨ y.2.2 = 1 ∨ y.2.2 = 2) := by
  obtain ⟨y, h1, h2, h3, h4, h5⟩ := decode_both s (by omega)
  unfold m_eponymref05_Text m_comp_Text
  rw [h1, h2, bind_some', bind_some']
  simp only
  rw [utfEr_nil]
  by_cases h0 : y.2.2 = 0
  · have hB : ∀ x ∈ y.1, rightB x = true := fun x hx => by rw [← rightS_B]; exact h5 x hx
    have hr : ∀ x ∈ y.1, r32 x := fun x hx => right_r32 (hB x hx)
    have hlen := compS_len g y.1
    have henc := encode_both (compS t y.1) (by omega) fun x hx => by rw [rightS_B]; exact compS_right g hB x hx
    refine ⟨(strOfNums (encS (compS t y.1)), 0, 0), ?_, ?_, .inl rfl⟩
    · rw [h0, show ((0 : Int) != 0) = false by decide, cond_false, comp_all_ref g _ (by omega) hr, bind_some', henc.2, bind_some']
    · rw [decide_eq_true h0, Bool.not_true, cond_false, comp_all_prog g _ (by omega) hr, bind_some', henc.1, bind_some']
      rfl
  · refine ⟨(ByteArray.mk #[], y.2.1, y.2.2), ?_, ?_, h3⟩
    · rw [bne_iff_ne.2 h0, cond_true]
    · rw [decide_eq_false h0, Bool.not_false, cond_true]
theorem law_compTexts (t : T_api_Norm) (s : ByteArray) : m_eponymlaw05_CompTexts t s = some true := by
  unfold m_eponymlaw05_CompTexts
  rw [awake05, bind_some']
  obtain ⟨bb, hbb, hs⟩ := great04 t
  rw [hbb]
  simp only [Bool.not_true, cond_false, bind_some']
  have yes : m_eponymlaw05_CompTexts_K3 t s true = some true := rfl
  cases bb with
  | true => exact yes
  | false =>
    unfold m_eponymlaw04_Right
    rw [cond_false, check04_eq t (hs rfl).2.2.2]
    simp only [bind_some']
    by_cases h0 : (chk04 t).2 = 0
    · have g := Good.of (chk04_right h0)
      rw [h0]
      by_cases hl : s.size > 40
      · rw [decide_eq_true (show ((s.size : Nat) : Int) > 40 by omega)]
        exact yes
      · rw [decide_eq_false (show ¬ ((s.size : Nat) : Int) > 40 by omega)]
        show m_eponymlaw05_CompTexts_K3 t s false = some true
        obtain ⟨y, h1, h2, h3⟩ := text_both g s (by omega)
        unfold m_eponymlaw05_CompTexts_K3
        rw [cond_false, h2, bind_some', h1, bind_some']
        simp only [beq_self_eq_true, cond_true]
        rw [is_utf h3, bind_some']
    · have hn : ((chk04 t).2 == 0) = false := beq_false_of_ne h0
      rw [hn]
      exact yes
end Go.Proofs.YtjhgaacecfmadaaGreatDoor
