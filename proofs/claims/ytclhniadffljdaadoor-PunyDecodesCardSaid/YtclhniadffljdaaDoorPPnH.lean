/- Punycode read: bytes checked, the part ahead. No condition. -/
import Derived.Test.YtclhniadffljdaaDoorPPnF
namespace Go.Proofs.YtclhniadffljdaaDoor
open Go Go.SE
set_option linter.unusedVariables false
set_option linter.unusedSimpArgs false
/-- Where the digits begin. -/
def fromH (s : ByteArray) : Nat → Int
  | 0 => 0
  | k + 1 => if bt s (k : Int) = 45 ∧ 0 < k then ((k + 1 : Nat) : Int) else fromH s k
theorem fromH_eq (s : ByteArray) : ∀ n, fromH s n = if lastH s n > 0 then lastH s n + 1 else 0
  | 0 => by simp [fromH, lastH]
  | k + 1 => by
    unfold fromH lastH
    by_cases h : bt s (k : Int) = 45
    · by_cases hk : 0 < k
      · rw [if_pos ⟨h, hk⟩, if_pos h, if_pos (by omega)]; omega
      · rw [if_neg (fun h => hk h.2), if_pos h, if_neg (by omega)]
        have : k = 0 := by omega
        subst this
        rfl
    · rw [if_neg (fun h' => h h'.1), if_neg h]
      exact fromH_eq s k
theorem check_ref (s : ByteArray) (hs : s.size ≤ 1000) : ∀ (m k : Nat), k + m = s.size → asc s k → (asc s s.size ∧ iter (m_eponymref06_Decode_L27 s) (fromH s k, (k : Int)) = some (.inl (fromH s s.size))) ∨
    ∃ j : Nat, j < s.size ∧ asc s j ∧ 128 ≤ bt s (j : Int) ∧ iter (m_eponymref06_Decode_L27 s) (fromH s k, (k : Int)) = some (.inr ([], (j : Int), 1))
  | 0, k, hk, ha => by
    have : k = s.size := by omega
    subst this
    refine .inl ⟨ha, iter_done ?_⟩
    unfold m_eponymref06_Decode_L27
    simp
  | m + 1, k, hk, ha => by
    have hlt : decide ((k : Int) < ((s.size : Nat) : Int)) = true := by simp; omega
    by_cases hb : bt s (k : Int) > 127
    · refine .inr ⟨k, by omega, ha, by omega, iter_done ?_⟩
      unfold m_eponymref06_Decode_L27
      simp only [hlt, cond_true]
      rw [if_pos (by omega), decide_eq_true hb, cond_true]
    · have hbf : decide (bt s (k : Int) > 127) = false := by simp; omega
      have hu : IntKind.wrap .i64 ((k : Int) + 1) = ((k + 1 : Nat) : Int) := up (by omega)
      have hstep : m_eponymref06_Decode_L27 s (fromH s k, (k : Int)) = some (.next (fromH s (k + 1), ((k + 1 : Nat) : Int))) := by
        unfold m_eponymref06_Decode_L27
        simp only [hlt, cond_true]
        rw [if_pos (by omega), hbf, cond_false, if_pos (by omega)]
        unfold m_eponymref06_Decode_K30
        rw [hu, fromH]
        by_cases h : bt s (k : Int) = 45
        · rw [show (bt s (k : Int) == 45) = true by simp [h], cond_true, bind_some']
          by_cases hk0 : 0 < k
          · rw [show decide ((k : Int) > 0) = true by simp; omega, cond_true, if_pos ⟨h, hk0⟩]
          · rw [show decide ((k : Int) > 0) = false by simp; omega, cond_false, if_neg (fun h => hk0 h.2)]
        · rw [show (bt s (k : Int) == 45) = false by simp [h], cond_false, bind_some', cond_false, if_neg (fun h' => h h'.1)]
      have ha' : asc s (k + 1) := fun j hj => by
        by_cases e : j = k
        · subst e; omega
        · exact ha j (by omega)
      rw [iter_next hstep]
      exact check_ref s hs m (k + 1) (by omega) ha'
end Go.Proofs.YtclhniadffljdaaDoor
