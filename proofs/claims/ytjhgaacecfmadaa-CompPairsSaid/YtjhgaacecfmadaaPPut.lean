/- Runes put together: the program's answer and the document's. No condition. -/
import Derived.Test.YtjhgaacecfmadaaPPair
namespace Go.Proofs.Ytjhgaacecfmadaa
open Go Go.SE
set_option linter.unusedVariables false
set_option linter.unusedSimpArgs false
set_option maxHeartbeats 1000000
/-- What was put together so far: all ahead of the last rune of class 0; that one; what stands behind it. -/
structure PS where
  done : List Int
  st : Option Int
  mid : List Int
def psOut (s : PS) : List Int := s.done ++ (s.st.toList ++ s.mid)
def psAdd (t : T_api_Norm) (s : PS) (r : Int) : PS := if clsR t r = 0 then ⟨psOut s, some r, []⟩ else ⟨s.done, s.st, s.mid ++ [r]⟩
def psStep (t : T_api_Norm) (s : PS) (r : Int) : PS :=
  match s.st with
  | some z => if (∀ x ∈ s.mid, clsR t x < clsR t r) ∧ 0 ≤ pairF t z r then ⟨s.done, some (pairF t z r), s.mid⟩ else psAdd t s r
  | none => psAdd t s r
def ps0 : PS := ⟨[], none, []⟩
def putS (t : T_api_Norm) (l : List Int) : List Int := psOut (l.foldl (psStep t) ps0)
structure PSok (t : T_api_Norm) (s : PS) : Prop where
  st : ∀ z, s.st = some z → clsR t z = 0
  mid : ∀ x ∈ s.mid, 0 < clsR t x
  none : s.st = none → s.done = []
  rng : ∀ x ∈ psOut s, r32 x
/-- A composed rune has class 0, and may be. -/
theorem fnd_hang {t : T_api_Norm} (g : Good t) {x : Int} (h : hangB x = true) : clsR t x = 0 := by
  unfold clsR
  rcases fnd_mem (l := t.f_Classes) (r := x) with ⟨y, hy, e, h1, h2⟩ | e
  · exfalso
    obtain ⟨i, hi, rfl⟩ := List.getElem_of_mem hy
    have hv := g.r4.clsV i hi
    unfold clsF at hv
    have eg : t.f_Classes.getD i d_api_Range = t.f_Classes[i] := by simp [List.getD_eq_getElem?_getD, hi]
    rw [eg] at hv
    split at hv
    · cases hv
    · rename_i hn
      apply hn
      refine .inr (.inr ?_)
      unfold hangIn
      unfold hangB at h
      simp only [Bool.and_eq_true, Bool.or_eq_true, decide_eq_true_eq] at h ⊢
      refine ⟨by omega, ?_⟩
      rcases h with h | h | h | h
      · exact .inl ⟨by omega, by omega⟩
      · exact .inr (.inl ⟨by omega, by omega⟩)
      · exact .inr (.inr (.inl ⟨by omega, by omega⟩))
      · exact .inr (.inr (.inr ⟨by omega, by omega⟩))
  · rw [e]
theorem compB_cls {t : T_api_Norm} {i : Nat} (h : compB t i = true) : clsR t (t.f_Rows.getD i d_api_Row).f_From = 0 ∧ clsR t ((t.f_Rows.getD i d_api_Row).f_To.getD 0 0) = 0 := by
  unfold compB at h
  simp only [Bool.and_eq_true, beq_iff_eq] at h
  exact ⟨h.1.2, h.2⟩
theorem from_right {t : T_api_Norm} (g : Good t) {i : Nat} (hi : i < t.f_Rows.length) : rightB (t.f_Rows.getD i d_api_Row).f_From = true ∧ hangB (t.f_Rows.getD i d_api_Row).f_From = false := by
  have h := g.sound.row i hi
  unfold rowE at h
  split at h
  · cases h
  · rename_i h1
    simp only [Bool.or_eq_true, Bool.not_eq_true', not_or, Bool.not_eq_false] at h1
    exact ⟨h1.1, by simpa using h1.2⟩
theorem right_r32 {x : Int} (h : rightB x = true) : r32 x := by
  unfold rightB at h
  simp only [Bool.and_eq_true, decide_eq_true_eq] at h
  unfold r32
  omega
theorem pairF_ok {t : T_api_Norm} (g : Good t) {a b : Int} (h : 0 ≤ pairF t a b) : clsR t (pairF t a b) = 0 ∧ r32 (pairF t a b) := by
  by_cases hh : 0 ≤ hangF a b
  · have e : pairF t a b = hangF a b := if_pos hh
    rw [e]
    have hb : 44032 ≤ hangF a b ∧ hangF a b ≤ 55203 := by
      unfold hangF at hh ⊢
      split
      · omega
      · split
        · omega
        · rename_i h1 h2; rw [if_neg h1, if_neg h2] at hh; omega
    refine ⟨fnd_hang g ?_, by unfold r32; omega⟩
    unfold hangB
    rw [decide_eq_true (show hangF a b ≥ 44032 from hb.1), decide_eq_true hb.2]
    rfl
  · have e : pairF t a b = (rowPair t a b).getD (-1) := if_neg hh
    rw [e] at h ⊢
    cases hp : rowPair t a b with
    | none => rw [hp] at h; simp at h
    | some x =>
      obtain ⟨j, _, hj, h1, _⟩ := firstSome_some hp
      split at h1
      · rename_i hc
        cases h1
        exact ⟨(compB_cls hc.1).1, right_r32 (from_right g (by omega)).1⟩
      · cases h1
theorem psAdd_out (t : T_api_Norm) (s : PS) (r : Int) : psOut (psAdd t s r) = psOut s ++ [r] := by
  unfold psAdd
  split
  · simp [psOut]
  · simp [psOut]
theorem psStep_ok {t : T_api_Norm} (g : Good t) {s : PS} (h : PSok t s) {r : Int} (hr : r32 r) : PSok t (psStep t s r) := by
  have hl := g.cls.low r
  have add : PSok t (psAdd t s r) := by
    have ho := psAdd_out t s r
    refine ⟨?_, ?_, ?_, fun x hx => ?_⟩
    · unfold psAdd
      split
      · intro z hz; cases hz; assumption
      · exact h.st
    · unfold psAdd
      split
      · intro x hx; cases hx
      · intro x hx
        rcases List.mem_append.1 hx with hx | hx
        · exact h.mid x hx
        · simp at hx; subst hx; omega
    · unfold psAdd
      split
      · intro hx; cases hx
      · exact h.none
    · rw [ho] at hx
      rcases List.mem_append.1 hx with hx | hx
      · exact h.rng x hx
      · simp at hx; subst hx; exact hr
  unfold psStep
  split
  · rename_i z hz
    split
    · rename_i hc
      obtain ⟨p1, p2⟩ := pairF_ok g hc.2
      refine ⟨fun w hw => (by cases hw; exact p1), h.mid, fun hx => (by cases hx), fun x hx => ?_⟩
      simp only [psOut, Option.toList_some, List.mem_append, List.mem_singleton] at hx
      rcases hx with hx | rfl | hx
      · exact h.rng x (by simp [psOut, hx])
      · exact p2
      · exact h.rng x (by simp [psOut, hx])
    · exact add
  · exact add
theorem ps0_ok (t : T_api_Norm) : PSok t ps0 := ⟨fun z hz => (by cases hz), fun x hx => (by cases hx), fun _ => rfl, fun x hx => (by simp [psOut, ps0] at hx)⟩
theorem psStep_len (t : T_api_Norm) (s : PS) (r : Int) : (psOut (psStep t s r)).length ≤ (psOut s).length + 1 := by
  unfold psStep
  split
  · rename_i z hz
    split
    · simp [psOut, hz]
    · rw [psAdd_out]; simp
  · rw [psAdd_out]; simp
/-! ### The program's -/
def atOf (s : PS) : Int := match s.st with | some _ => (s.done.length : Int) | none => -1
def maxC (c : Int → Int) (l : List Int) : Int := l.foldl (fun m x => max m (c x)) 0
theorem maxC_snoc (c : Int → Int) (l : List Int) (x : Int) : maxC c (l ++ [x]) = max (maxC c l) (c x) := by simp [maxC]
theorem maxC_lt {c : Int → Int} {v : Int} : ∀ (l : List Int) (m : Int), l.foldl (fun m x => max m (c x)) m < v ↔ m < v ∧ ∀ x ∈ l, c x < v
  | [], m => by simp
  | y :: l, m => by
    rw [List.foldl_cons, maxC_lt l]
    simp only [List.mem_cons, forall_eq_or_imp]
    exact ⟨fun ⟨h1, h2⟩ => ⟨by omega, by omega, h2⟩, fun ⟨h1, h2, h3⟩ => ⟨by omega, h3⟩⟩
theorem add_eq {t : T_api_Norm} (g : Good t) {s : PS} (h : PSok t s) {r : Int} (hr : r32 r) (hlen : (psOut s).length < 1000000) :
    m_comp_row_add_own2 t.f_Rows t.f_Classes t.f_Excluded (psOut s) (atOf s) (maxC (clsR t) s.mid) r = some (t.f_Rows, t.f_Classes, t.f_Excluded, psOut (psStep t s r), atOf (psStep t s r), maxC (clsR t) (psStep t s r).mid) := by
  have hl := g.cls.low r
  have addc : m_comp_row_add_own2_K3 t.f_Rows t.f_Classes t.f_Excluded (psOut s) (atOf s) (maxC (clsR t) s.mid) r (clsR t r) () = some (t.f_Rows, t.f_Classes, t.f_Excluded, psOut (psAdd t s r), atOf (psAdd t s r), maxC (clsR t) (psAdd t s r).mid) := by
    unfold m_comp_row_add_own2_K3
    rw [if_pos (by omega), psAdd_out]
    by_cases h0 : clsR t r = 0
    · rw [h0, beq_self_eq_true, cond_true]
      have e : psAdd t s r = ⟨psOut s, some r, []⟩ := if_pos h0
      rw [e, w64 (by omega) (by omega)]
      simp [atOf, maxC]
    · rw [beq_false_of_ne h0, cond_false]
      have e : psAdd t s r = ⟨s.done, s.st, s.mid ++ [r]⟩ := if_neg h0
      rw [e]
      simp only [maxC_snoc]
      rfl
  unfold m_comp_row_add_own2
  rw [g.cls.prog, bind_some']
  cases hst : s.st with
  | none =>
    have ha : atOf s = -1 := by unfold atOf; rw [hst]
    have es : psStep t s r = psAdd t s r := by unfold psStep; rw [hst]
    rw [ha, decide_eq_false (by omega), cond_false, bind_some']
    unfold m_comp_row_add_own2_K5
    rw [cond_false, bind_some', es, ← ha]
    exact addc
  | some z =>
    have ha : atOf s = (s.done.length : Int) := by unfold atOf; rw [hst]
    have ho : psOut s = s.done ++ z :: s.mid := by simp [psOut, hst]
    have hlo : (psOut s).length = s.done.length + 1 + s.mid.length := by rw [ho]; simp; omega
    have hz : (psOut s).getD s.done.length 0 = z := at_eq ho rfl
    have hzr : r32 z := h.rng z (by rw [ho]; simp)
    have cond : (bif (((psOut s).length : Int) == IntKind.wrap .i64 (atOf s + 1)) then some true else some (decide (maxC (clsR t) s.mid < clsR t r))) = some (decide (∀ x ∈ s.mid, clsR t x < clsR t r)) := by
      rw [ha, w64 (by omega) (by omega)]
      by_cases hm : s.mid = []
      · rw [show (((psOut s).length : Int) == (s.done.length : Int) + 1) = true by rw [hlo, hm]; simp, cond_true, decide_eq_true (by rw [hm]; intro x hx; cases hx)]
      · have : 0 < s.mid.length := List.length_pos_iff.2 hm
        rw [beq_false_of_ne (by omega), cond_false]
        congr 1
        refine decide_eq_decide.2 ?_
        unfold maxC
        rw [maxC_lt]
        refine ⟨fun hh => hh.2, fun hh => ⟨?_, hh⟩⟩
        obtain ⟨x, hx⟩ := List.exists_mem_of_ne_nil _ hm
        have h1 := hh x hx
        have h2 := h.mid x hx
        omega
    rw [decide_eq_true (show atOf s ≥ 0 by omega), cond_true, cond]
    unfold m_comp_row_add_own2_K5
    simp only [bind_some']
    by_cases hmid : ∀ x ∈ s.mid, clsR t x < clsR t r
    · rw [decide_eq_true hmid, cond_true, if_pos ⟨by omega, by omega⟩, ha, pos_toNat, hz, pair_prog g hzr hr, bind_some']
      by_cases hp : 0 ≤ pairF t z r
      · have es : psStep t s r = ⟨s.done, some (pairF t z r), s.mid⟩ := by unfold psStep; rw [hst]; exact if_pos ⟨hmid, hp⟩
        simp only [if_pos hp, cond_true]
        rw [if_pos ⟨by omega, by omega⟩, bind_some', es]
        have e2 : (psOut s).set s.done.length (pairF t z r) = s.done ++ pairF t z r :: s.mid := by
          rw [ho]
          simp
        rw [e2]
        simp [psOut, atOf]
      · have es : psStep t s r = psAdd t s r := by unfold psStep; rw [hst]; exact if_neg (fun hh => hp hh.2)
        simp only [if_neg hp, cond_false, bind_some']
        rw [es, ← ha]
        exact addc
    · have es : psStep t s r = psAdd t s r := by unfold psStep; rw [hst]; exact if_neg (fun hh => hmid hh.1)
      rw [decide_eq_false hmid, cond_false, bind_some', es]
      exact addc
theorem put_prog {t : T_api_Norm} (g : Good t) (l : List Int) (hl : l.length ≤ 100000) (hr : ∀ x ∈ l, r32 x) : m_comp_Put t l = some (putS t l) := by
  have loop : ∀ (T D : List Int) (s : PS), l = D ++ T → PSok t s → (psOut s).length ≤ D.length →
      iter (m_comp_Put_L5 l) (t.f_Rows, t.f_Classes, t.f_Excluded, psOut s, atOf s, maxC (clsR t) s.mid, (D.length : Int)) = some (t.f_Rows, t.f_Classes, t.f_Excluded, psOut (T.foldl (psStep t) s), atOf (T.foldl (psStep t) s), maxC (clsR t) (T.foldl (psStep t) s).mid) := by
    intro T
    induction T with
    | nil =>
      intro D s hD hs hlen
      rw [List.append_nil] at hD
      subst hD
      have body : m_comp_Put_L5 l (t.f_Rows, t.f_Classes, t.f_Excluded, psOut s, atOf s, maxC (clsR t) s.mid, (l.length : Int)) = some (.done (t.f_Rows, t.f_Classes, t.f_Excluded, psOut s, atOf s, maxC (clsR t) s.mid)) := by
        unfold m_comp_Put_L5
        simp
      rw [iter_step, body]
      rfl
    | cons x T ih =>
      intro D s hD hs hlen
      have hx : l.getD D.length 0 = x := at_eq hD rfl
      have hll : D.length < l.length := by rw [hD]; simp
      have hxr : r32 x := hr x (by rw [hD]; simp)
      have body : m_comp_Put_L5 l (t.f_Rows, t.f_Classes, t.f_Excluded, psOut s, atOf s, maxC (clsR t) s.mid, (D.length : Int)) = some (.next (t.f_Rows, t.f_Classes, t.f_Excluded, psOut (psStep t s x), atOf (psStep t s x), maxC (clsR t) (psStep t s x).mid, ((D ++ [x]).length : Int))) := by
        unfold m_comp_Put_L5
        simp only [decide_eq_true (show (D.length : Int) < (l.length : Int) by omega), cond_true, if_pos (show 0 ≤ (D.length : Int) ∧ (D.length : Int) < (l.length : Int) by omega), pos_toNat, hx]
        rw [add_eq g hs hxr (by omega), bind_some', up (by omega)]
        simp
      rw [iter_step, body]
      have := psStep_len t s x
      exact ih (D ++ [x]) (psStep t s x) (by rw [hD]; simp) (psStep_ok g hs hxr) (by simp; omega)
  unfold m_comp_Put
  have := loop l [] ps0 rfl (ps0_ok t) (by simp [psOut, ps0])
  simp only [List.length_nil] at this
  rw [show psOut ps0 = [] from rfl, show atOf ps0 = -1 from rfl, show maxC (clsR t) ps0.mid = 0 from rfl, show ((0 : Nat) : Int) = 0 from rfl] at this
  rw [this]
  rfl
end Go.Proofs.Ytjhgaacecfmadaa
