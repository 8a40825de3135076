/- The odometer of variants.Seq: one more is the next number's digits. No condition. -/
import Derived.Test.YtclhniadffljdaaP0
namespace Go.Proofs.Ytclhniadffljdaa
open Go Go.SE
set_option linter.unusedVariables false
set_option linter.unusedSimpArgs false
/-- The digits of a number, the fastest first, by the wheels' sizes. -/
def digR : List Nat → Nat → List Nat
  | [], _ => []
  | n :: ns, k => (k % n) :: digR ns (k / n)
def prodL (ns : List Nat) : Nat := ns.foldr (· * ·) 1
/-- One step of the odometer, the fastest place first; none: all have come. -/
def nextR : List Nat → List Nat → Option (List Nat)
  | n :: ns, d :: ds => if d + 1 = n then (nextR ns ds).map (0 :: ·) else some ((d + 1) :: ds)
  | _, _ => none
theorem digR_len : ∀ (ns : List Nat) (k : Nat), (digR ns k).length = ns.length
  | [], _ => rfl
  | n :: ns, k => by rw [digR, List.length_cons, List.length_cons, digR_len ns]
theorem digR_zero : ∀ (ns : List Nat), digR ns 0 = List.replicate ns.length 0
  | [] => rfl
  | n :: ns => by rw [digR, Nat.zero_mod, Nat.zero_div, digR_zero ns]; rfl
theorem prodL_pos : ∀ (ns : List Nat), (∀ n ∈ ns, 0 < n) → 0 < prodL ns
  | [], _ => Nat.one_pos
  | n :: ns, h => Nat.mul_pos (h n (by simp)) (prodL_pos ns fun m hm => h m (by simp [hm]))
theorem next_digR : ∀ (ns : List Nat) (k : Nat), (∀ n ∈ ns, 0 < n) → k < prodL ns → nextR ns (digR ns k) = if k + 1 < prodL ns then some (digR ns (k + 1)) else none
  | [], k, _, hk => by
    have : k < 1 := hk
    rw [nextR, if_neg]
    · show ¬ k + 1 < 1; omega
    · intro _ _ _ _ h; cases h
  | n :: ns, k, h, hk => by
    have hn := h n (by simp)
    have hk : k < n * prodL ns := hk
    have hp : prodL (n :: ns) = n * prodL ns := rfl
    have hq : k / n < prodL ns := Nat.div_lt_of_lt_mul hk
    have ih := next_digR ns (k / n) (fun m hm => h m (by simp [hm])) hq
    have hdm := Nat.div_add_mod k n
    have hmod := Nat.mod_lt k hn
    rw [digR, nextR, hp]
    by_cases hr : k % n + 1 = n
    · have e1 : (k + 1) % n = 0 := by
        have : k + 1 = n * (k / n + 1) := by rw [Nat.mul_add, Nat.mul_one]; omega
        rw [this]; exact Nat.mul_mod_right _ _
      have e2 : (k + 1) / n = k / n + 1 := by
        have : k + 1 = n * (k / n + 1) := by rw [Nat.mul_add, Nat.mul_one]; omega
        rw [this, Nat.mul_div_cancel_left _ hn]
      have hlt : k + 1 < n * prodL ns ↔ k / n + 1 < prodL ns := by
        have : k + 1 = n * (k / n + 1) := by rw [Nat.mul_add, Nat.mul_one]; omega
        rw [this]; exact Nat.mul_lt_mul_left hn
      rw [if_pos hr, ih]
      by_cases hl : k / n + 1 < prodL ns
      · rw [if_pos hl, if_pos (hlt.2 hl), digR, e1, e2]; rfl
      · rw [if_neg hl, if_neg (fun h => hl (hlt.1 h))]; rfl
    · have e1 : (k + 1) % n = k % n + 1 := by
        have h1 : k + 1 = (k % n + 1) + n * (k / n) := by omega
        rw [h1, Nat.add_mul_mod_self_left, Nat.mod_eq_of_lt (by omega)]
      have e2 : (k + 1) / n = k / n := by
        have h1 : k + 1 = (k % n + 1) + n * (k / n) := by omega
        rw [h1, Nat.add_mul_div_left _ _ hn, Nat.div_eq_of_lt (by omega), Nat.zero_add]
      have hlt : k + 1 < n * prodL ns := by
        have h2 : n * (k / n + 1) ≤ n * prodL ns := Nat.mul_le_mul_left n hq
        rw [Nat.mul_add, Nat.mul_one] at h2
        omega
      rw [if_neg hr, if_pos hlt, digR, e1, e2]
end Go.Proofs.Ytclhniadffljdaa
