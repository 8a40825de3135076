/- The checks of the reference: they end, and what they find right is in order. No condition. -/
import Derived.Test.YtjhgaacecfmadaaDoorPRanges
namespace Go.Proofs.YtjhgaacecfmadaaDoor
open Go Go.SE
set_option linter.unusedVariables false
set_option linter.unusedSimpArgs false
def mayB (x : T_api_Range) : Bool := decide (x.f_Lo ≥ 0) && decide (x.f_Lo ≤ x.f_Hi) && decide (x.f_Hi ≤ 1114111) && decide (x.f_Value ≥ 0) && decide (x.f_Value ≤ 999999)
theorem may_eq (x : T_api_Range) : m_eponymref03_May x = some (mayB x) := by
  unfold m_eponymref03_May mayB
  by_cases h1 : x.f_Lo ≥ 0 <;> by_cases h2 : x.f_Lo ≤ x.f_Hi <;> by_cases h3 : x.f_Hi ≤ 1114111 <;> by_cases h4 : x.f_Value ≥ 0 <;> simp [h1, h2, h3, h4]
/-- What is wrong with range i of a table. -/
def chkF (l : List T_api_Range) (i : Nat) : Option (Int × Int) :=
  if mayB (l.getD i d_api_Range) = false then some (i, 4)
  else if 0 < i ∧ (l.getD i d_api_Range).f_Lo ≤ (l.getD (i - 1) d_api_Range).f_Hi then some (i, 6) else none
def chkR (l : List T_api_Range) : Int × Int := if 2000 < l.length then (0, 18) else (firstSome (chkF l) l.length 0).getD (0, 0)
theorem check03_eq (l : List T_api_Range) : m_eponymref03_Check l = some (chkR l) := by
  unfold m_eponymref03_Check chkR
  by_cases hn : 2000 < l.length
  · rw [if_pos hn, decide_eq_true (by omega)]; rfl
  · rw [if_neg hn, decide_eq_false (by omega), cond_false]
    rw [iter_scan l.length (chkF l) (fun i hi _ => ?_) (fun _ => ?_)]
    · cases firstSome (chkF l) l.length 0 <;> rfl
    · unfold m_eponymref03_Check_L5 chkF
      rw [decide_eq_true (by omega), cond_true, if_pos ⟨by omega, by omega⟩, Int.toNat_natCast, may_eq, bind_some']
      cases hm : mayB (l.getD i d_api_Range) with
      | false => rfl
      | true =>
        simp only [Bool.not_true, cond_false, Bool.true_eq_false, if_false]
        by_cases h0 : 0 < i
        · rw [decide_eq_true (by omega), cond_true, if_pos ⟨by omega, by omega⟩, down h0 (by omega), if_pos ⟨by omega, by omega⟩, bind_some', Int.toNat_natCast]
          by_cases h1 : (l.getD i d_api_Range).f_Lo ≤ (l.getD (i - 1) d_api_Range).f_Hi
          · rw [if_pos ⟨h0, h1⟩, decide_eq_true h1]; rfl
          · rw [if_neg (fun h => h1 h.2), decide_eq_false h1]
            simp only [m_eponymref03_Check_K9, cond_false, up (show i < 9223372036854775807 by omega)]
        · rw [decide_eq_false (by omega), cond_false, bind_some', if_neg (fun h => h0 h.1)]
          simp only [m_eponymref03_Check_K9, cond_false, up (show i < 9223372036854775807 by omega)]
    · unfold m_eponymref03_Check_L5
      rw [decide_eq_false (by omega)]; rfl
theorem pairwise_of_steps {α : Type} {R : α → α → Prop} {d : α} (tr : ∀ a b c, R a b → R b c → R a c) : ∀ (l : List α), (∀ i, 0 < i → i < l.length → R (l.getD (i - 1) d) (l.getD i d)) → l.Pairwise R
  | [], _ => .nil
  | x :: l, h => by
    have ih := pairwise_of_steps tr l fun i h0 hi => by have := h (i + 1) (by omega) (by simpa using hi); rw [show i + 1 - 1 = (i - 1) + 1 by omega] at this; simpa using this
    refine List.pairwise_cons.2 ⟨?_, ih⟩
    cases l with
    | nil => intro y hy; cases hy
    | cons y l =>
      have h1 : R x y := h 1 (by omega) (by simp)
      intro z hz
      rcases List.mem_cons.1 hz with rfl | hz
      · exact h1
      · exact tr _ _ _ h1 ((List.pairwise_cons.1 ih).1 z hz)
theorem chk_right {l : List T_api_Range} (h : (chkR l).2 = 0) : l.length ≤ 2000 ∧ ordered l ∧ ∀ x ∈ l, mayB x = true := by
  unfold chkR at h
  by_cases hn : 2000 < l.length
  · rw [if_pos hn] at h; cases h
  · rw [if_neg hn] at h
    have hnone : firstSome (chkF l) l.length 0 = none := by
      cases hf : firstSome (chkF l) l.length 0 with
      | none => rfl
      | some v =>
        obtain ⟨j, _, _, hj, _⟩ := firstSome_some hf
        rw [hf] at h
        simp only [Option.getD_some] at h
        unfold chkF at hj
        split at hj
        · cases hj; cases h
        · split at hj
          · cases hj; cases h
          · cases hj
    have hall := firstSome_none.1 hnone
    have hmay : ∀ i, i < l.length → mayB (l.getD i d_api_Range) = true := fun i hi => by
      have := hall i (Nat.zero_le _) (by omega)
      unfold chkF at this
      split at this
      · cases this
      · rename_i hm; simpa using hm
    have hm : ∀ x ∈ l, mayB x = true := fun x hx => by
      obtain ⟨i, hi, rfl⟩ := List.getElem_of_mem hx
      have := hmay i hi
      simpa [List.getD_eq_getElem?_getD, hi] using this
    have hstep : ∀ i, 0 < i → i < l.length → (l.getD (i - 1) d_api_Range).f_Hi < (l.getD i d_api_Range).f_Lo := fun i h0 hi => by
      have := hall i (Nat.zero_le _) (by omega)
      unfold chkF at this
      split at this
      · cases this
      · split at this
        · cases this
        · rename_i hc; omega
    have hlo : ∀ x ∈ l, x.f_Lo ≤ x.f_Hi := fun x hx => by
      have := hm x hx
      simp only [mayB, Bool.and_eq_true, decide_eq_true_eq] at this
      omega
    refine ⟨by omega, ⟨hlo, ?_⟩, hm⟩
    -- neighbours suffice, as each range is no emptier than a rune
    have hp : l.Pairwise fun x y => x.f_Hi < y.f_Lo ∧ y.f_Lo ≤ y.f_Hi := by
      refine pairwise_of_steps (d := d_api_Range) (fun a b c h1 h2 => ⟨by omega, h2.2⟩) l fun i h0 hi => ⟨hstep i h0 hi, hlo _ (getD_mem hi)⟩
    exact hp.imp fun h => h.1
end Go.Proofs.YtjhgaacecfmadaaDoor
