/- Punycode read: what is ahead of the last hyphen. No condition. -/
import Derived.Test.YtclhniadffljdaaDoorPPnE
namespace Go.Proofs.YtclhniadffljdaaDoor
open Go Go.SE
set_option linter.unusedVariables false
set_option linter.unusedSimpArgs false
/-- The last hyphen, from below. -/
def lastH (s : ByteArray) : Nat → Int
  | 0 => -1
  | k + 1 => if bt s (k : Int) = 45 then (k : Int) else lastH s k
theorem lastH_in (s : ByteArray) : ∀ k, -1 ≤ lastH s k ∧ lastH s k < k
  | 0 => ⟨by simp [lastH], by simp [lastH]⟩
  | k + 1 => by
    unfold lastH
    split
    · omega
    · have := lastH_in s k; omega
theorem lastI_eq (s : ByteArray) (hs : s.size ≤ 1000) : m_strings_LastIndexByte s 45 = some (lastH s s.size) := by
  have key : ∀ k : Nat, k ≤ s.size → iter (m_internal_bytealg_LastIndexByteString_L5 s 45) ((k : Int) - 1) = some (if lastH s k = -1 then .inl () else .inr (lastH s k)) := by
    intro k
    induction k with
    | zero =>
      intro _
      rw [iter_done (x := .inl ()) (by
        unfold m_internal_bytealg_LastIndexByteString_L5
        rfl)]
      rfl
    | succ k ih =>
      intro hk
      rw [show (((k + 1 : Nat) : Int) - 1) = (k : Int) by omega]
      by_cases h : bt s (k : Int) = 45
      · rw [iter_done (x := .inr (k : Int)) (by
          unfold m_internal_bytealg_LastIndexByteString_L5
          rw [show decide ((k : Int) ≥ 0) = true by simp, cond_true, if_pos (by omega), show (bt s (k : Int) == 45) = true by simp [h], cond_true])]
        unfold lastH
        rw [if_pos h, if_neg (by omega)]
      · rw [iter_next (s' := (k : Int) - 1) (by
          unfold m_internal_bytealg_LastIndexByteString_L5
          rw [show decide ((k : Int) ≥ 0) = true by simp, cond_true, if_pos (by omega), show (bt s (k : Int) == 45) = false by simp [h], cond_false, w64 (by omega) (by omega)])]
        rw [ih (by omega)]
        have : lastH s (k + 1) = lastH s k := by rw [lastH, if_neg h]
        rw [this]
  unfold m_strings_LastIndexByte m_internal_bytealg_LastIndexByteString
  rw [w64 (by omega) (by omega), key s.size (Nat.le_refl _), bind_some']
  by_cases h : lastH s s.size = -1
  · rw [if_pos h, h]; rfl
  · rw [if_neg h]; rfl
/-- All bytes are plain. -/
def asc (s : ByteArray) (n : Nat) : Prop := ∀ j : Nat, j < n → bt s (j : Int) < 128
theorem bt_get (t : ByteArray) (i : Nat) : ((t.get! i).toNat : Int) = bt t (i : Int) := by
  unfold bt
  rw [Int.toNat_natCast, ByteArray.get!, Array.getElem!_eq_getD, Array.getD_eq_getD_getElem?, List.getD_eq_getElem?_getD, Array.getElem?_toList]
  rfl
theorem runes_asc (t : ByteArray) (h : asc t t.size) : ∀ (n i : Nat) (acc : Array Value), i + n = t.size → (Conv.runesFrom t n i acc).toList = acc.toList ++ (List.range n).map fun j => Value.int .i32 (bt t ((i + j : Nat) : Int))
  | 0, i, acc, _ => by simp [Conv.runesFrom]
  | n + 1, i, acc, hi => by
    have hlt : i < t.size := by omega
    have hb := h i hlt
    have hd : Utf8.decode t i = ((t.get! i).toNat, 1) := by
      have : (t.get! i).toNat < 128 := by have := bt_get t i; omega
      unfold Utf8.decode
      simp only [Nat.add_zero]
      rw [if_pos this]
    unfold Conv.runesFrom
    rw [if_pos hlt, hd]
    simp only
    rw [runes_asc t h n (i + 1) _ (by omega), Array.toList_push, List.append_assoc, List.range_succ_eq_map, List.map_cons, List.map_map]
    congr 1
    rw [List.singleton_append]
    congr 1
    · rw [Nat.add_zero, ← bt_get]; rfl
    · refine List.map_congr_left fun j hj => ?_
      simp only [Function.comp]
      rw [show i + 1 + j = i + (j + 1) by omega]
theorem runesL_asc (t : ByteArray) (h : asc t t.size) : runesL t = (List.range t.size).map fun j => bt t ((j : Nat) : Int) := by
  unfold runesL
  rw [runes_asc t h t.size 0 #[] (by omega)]
  simp
end Go.Proofs.YtclhniadffljdaaDoor
