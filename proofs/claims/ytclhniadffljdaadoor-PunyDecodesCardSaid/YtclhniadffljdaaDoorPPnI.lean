/- Punycode read: the code's check, the document's runes ahead of the last hyphen. No condition. -/
import Derived.Test.YtclhniadffljdaaDoorPPnH
namespace Go.Proofs.YtclhniadffljdaaDoor
open Go Go.SE
set_option linter.unusedVariables false
set_option linter.unusedSimpArgs false
theorem chk_step (s : ByteArray) (hs : s.size ≤ 1000) (k : Nat) (hk : k < s.size) : m_puny_Decode_L19 s (k : Int) = some (if 128 ≤ bt s (k : Int) then .done (.inr ([], .box 62 (k : Int) (.sent 5))) else .next ((k + 1 : Nat) : Int)) := by
  unfold m_puny_Decode_L19
  rw [show decide ((k : Int) < ((s.size : Nat) : Int)) = true by simp; omega, cond_true, if_pos (by omega)]
  by_cases h : 128 ≤ bt s (k : Int)
  · rw [show decide (bt s (k : Int) ≥ 128) = true by simp; omega, cond_true, if_pos h]; rfl
  · rw [show decide (bt s (k : Int) ≥ 128) = false by simp; omega, cond_false, if_neg h, up (by omega)]
theorem chk_ok (s : ByteArray) (hs : s.size ≤ 1000) (ha : asc s s.size) : ∀ (m k : Nat), k + m = s.size → iter (m_puny_Decode_L19 s) (k : Int) = some (.inl ())
  | 0, k, hk => by
    have : k = s.size := by omega
    subst this
    refine iter_done ?_
    unfold m_puny_Decode_L19
    simp
  | m + 1, k, hk => by
    have h := chk_step s hs k (by omega)
    rw [if_neg (by have := ha k (by omega); omega)] at h
    rw [iter_next h]
    exact chk_ok s hs ha m (k + 1) (by omega)
theorem chk_bad (s : ByteArray) (hs : s.size ≤ 1000) (j : Nat) (hj : j < s.size) (ha : asc s j) (hb : 128 ≤ bt s (j : Int)) : ∀ (m k : Nat), k + m = j → iter (m_puny_Decode_L19 s) (k : Int) = some (.inr ([], .box 62 (j : Int) (.sent 5)))
  | 0, k, hk => by
    have : k = j := by omega
    subst this
    have h := chk_step s hs k hj
    rw [if_pos hb] at h
    exact iter_done h
  | m + 1, k, hk => by
    have h := chk_step s hs k (by omega)
    rw [if_neg (by have := ha k (by omega); omega)] at h
    rw [iter_next h]
    exact chk_bad s hs j hj ha hb m (k + 1) (by omega)
theorem pre_ref (s : ByteArray) (hs : s.size ≤ 1000) (y : Nat) (hy : y < s.size) : ∀ (m k : Nat), k + m = y → iter (m_eponymref06_Decode_L22 s ((y + 1 : Nat) : Int)) ((List.range k).map (fun j => bt s ((j : Nat) : Int)), (k : Int)) = some ((List.range y).map fun j => bt s ((j : Nat) : Int))
  | 0, k, hk => by
    have : k = y := by omega
    subst this
    refine iter_done ?_
    unfold m_eponymref06_Decode_L22
    simp only
    rw [up (by omega), show decide (((k + 1 : Nat) : Int) < ((k + 1 : Nat) : Int)) = false by simp, cond_false]
  | m + 1, k, hk => by
    have hb := bt_in s (k : Int)
    have h : m_eponymref06_Decode_L22 s ((y + 1 : Nat) : Int) ((List.range k).map (fun j => bt s ((j : Nat) : Int)), (k : Int)) = some (.next ((List.range (k + 1)).map (fun j => bt s ((j : Nat) : Int)), ((k + 1 : Nat) : Int))) := by
      unfold m_eponymref06_Decode_L22
      simp only
      rw [up (by omega), show decide (((k + 1 : Nat) : Int) < ((y + 1 : Nat) : Int)) = true by simp; omega, cond_true, if_pos (by omega), if_pos (by simp; omega), w32 (by omega) (by omega), List.range_succ, List.map_append]
      rfl
    rw [iter_next h]
    exact pre_ref s hs y hy m (k + 1) (by omega)
theorem pre_none (s : ByteArray) : iter (m_eponymref06_Decode_L22 s 0) ([], 0) = some [] := iter_done (by unfold m_eponymref06_Decode_L22; rfl)
end Go.Proofs.YtclhniadffljdaaDoor
