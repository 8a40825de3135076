/- Plain lemmas on models: loops, wrapped numbers, lists. No condition. -/
import Derived.Test.YtclhniadffljdaaDoorM
namespace Go.Proofs.YtclhniadffljdaaDoor
open Go Go.SE
set_option linter.unusedVariables false
set_option linter.unusedSimpArgs false
theorem iter_none {S X : Type} {body : S → Option (Stp S X)} {s : S} (h : body s = none) : iter body s = none := by
  cases hi : iter body s with
  | none => rfl
  | some x =>
    obtain ⟨k, hk⟩ := iter_out hi
    cases k with
    | zero => cases hk
    | succ k => rw [iterN, h] at hk; cases hk
theorem iter_step {S X : Type} {body : S → Option (Stp S X)} {s : S} : iter body s = match body s with | some (.next s') => iter body s' | some (.done x) => some x | none => none := by
  cases hb : body s with
  | none => exact iter_none hb
  | some st =>
    cases st with
    | next s' => exact iter_next hb
    | done x => exact iter_done hb
theorem w64 {x : Int} (h : -9223372036854775808 ≤ x) (h' : x ≤ 9223372036854775807) : IntKind.wrap .i64 x = x := by
  have e1 : (IntKind.i64).bits = 64 := rfl
  have e2 : (IntKind.i64).signed = true := rfl
  simp only [IntKind.wrap, e1, e2, Bool.true_and, decide_eq_true_eq]
  split <;> omega
theorem wu64 {x : Int} (h : 0 ≤ x) (h' : x ≤ 18446744073709551615) : IntKind.wrap .u64 x = x := by
  have e1 : (IntKind.u64).bits = 64 := rfl
  have e2 : (IntKind.u64).signed = false := rfl
  simp only [IntKind.wrap, e1, e2, Bool.false_and]
  simp
  omega
theorem w32 {x : Int} (h : -2147483648 ≤ x) (h' : x ≤ 2147483647) : IntKind.wrap .i32 x = x := by
  have e1 : (IntKind.i32).bits = 32 := rfl
  have e2 : (IntKind.i32).signed = true := rfl
  simp only [IntKind.wrap, e1, e2, Bool.true_and, decide_eq_true_eq]
  split <;> omega
/-- One more. -/
theorem up {i : Nat} (h : i < 9223372036854775807) : IntKind.wrap .i64 ((i : Int) + 1) = ((i + 1 : Nat) : Int) := by
  rw [w64 (by omega) (by omega)]; omega
theorem down {i : Nat} (h : 0 < i) (h2 : i ≤ 9223372036854775807) : IntKind.wrap .i64 ((i : Int) - 1) = ((i - 1 : Nat) : Int) := by
  rw [w64 (by omega) (by omega)]; omega
theorem mid {i j : Nat} (h : i + j < 9223372036854775808) : IntKind.wrap .i64 (Int.fdiv (IntKind.wrap .u64 (IntKind.wrap .i64 ((i : Int) + (j : Int)))) 2) = (((i + j) / 2 : Nat) : Int) := by
  rw [w64 (x := (i : Int) + j) (by omega) (by omega), wu64 (by omega) (by omega), Int.fdiv_eq_ediv_of_nonneg _ (by omega), w64 (by omega) (by omega)]
  omega
theorem drop_getD {α : Type} {l : List α} {d : α} {i : Nat} (h : i < l.length) : l.drop i = l.getD i d :: l.drop (i + 1) := by
  rw [List.drop_eq_getElem_cons h]
  simp [List.getD_eq_getElem?_getD, h]
theorem getD_mem {α : Type} {l : List α} {d : α} {i : Nat} (h : i < l.length) : l.getD i d ∈ l := by
  simp [List.getD_eq_getElem?_getD, h]
theorem getD_pair {α : Type} {R : α → α → Prop} {d : α} : ∀ {l : List α}, l.Pairwise R → ∀ {i j : Nat}, i < j → j < l.length → R (l.getD i d) (l.getD j d)
  | [], _, i, j, _, h => absurd h (Nat.not_lt_zero _)
  | x :: l, hp, 0, j + 1, _, h => (List.pairwise_cons.1 hp).1 _ (getD_mem (by simpa using h))
  | x :: l, hp, i + 1, j + 1, hij, h => getD_pair (List.pairwise_cons.1 hp).2 (by omega) (by simpa using h)
/-- A binary search's answer. -/
def isFirst (p : Nat → Prop) (n y : Nat) : Prop := y ≤ n ∧ (∀ k, k < y → ¬ p k) ∧ (y < n → p y)
/-! ### Loops over numbers -/
section
variable {S X A : Type}
def foldX (g : Nat → A → Sum A X) (e : A → X) : Nat → Nat → A → X
  | 0, _, a => e a
  | k + 1, i, a => match g i a with | .inl a' => foldX g e k (i + 1) a' | .inr x => x
theorem iter_fold {body : S → Option (Stp S X)} (st : Nat → A → S) (n : Nat) (g : Nat → A → Sum A X) (e : A → X) (I : Nat → A → Prop)
    (hstep : ∀ i a, i < n → I i a → body (st i a) = some (match g i a with | .inl a' => .next (st (i + 1) a') | .inr x => .done x) ∧ ∀ a', g i a = .inl a' → I (i + 1) a')
    (hend : ∀ a, I n a → body (st n a) = some (.done (e a))) : ∀ (k i : Nat) (a : A), i + k = n → I i a → iter body (st i a) = some (foldX g e k i a)
  | 0, i, a, h, hi => by
    have : i = n := by omega
    subst this
    rw [iter_done (hend a hi)]
    rfl
  | k + 1, i, a, h, hi => by
    obtain ⟨h1, h2⟩ := hstep i a (by omega) hi
    rw [foldX]
    cases hg : g i a with
    | inl a' =>
      rw [hg] at h1
      rw [iter_next h1]
      exact iter_fold st n g e I hstep hend k (i + 1) a' (by omega) (h2 a' hg)
    | inr x => rw [hg] at h1; rw [iter_done h1]
end
/-- The first answer of a row of questions. -/
def firstSome {V : Type} (f : Nat → Option V) : Nat → Nat → Option V
  | 0, _ => none
  | k + 1, i => match f i with | some v => some v | none => firstSome f k (i + 1)
theorem firstSome_none {V : Type} {f : Nat → Option V} : ∀ {k i : Nat}, firstSome f k i = none ↔ ∀ j, i ≤ j → j < i + k → f j = none
  | 0, i => ⟨fun _ j h1 h2 => by omega, fun _ => rfl⟩
  | k + 1, i => by
    rw [firstSome]
    cases hf : f i with
    | some v => exact ⟨fun h => (by cases h), fun h => by have := h i (Nat.le_refl _) (by omega); rw [hf] at this; cases this⟩
    | none =>
      show firstSome f k (i + 1) = none ↔ _
      rw [firstSome_none]
      refine ⟨fun h j h1 h2 => ?_, fun h j h1 h2 => h j (by omega) (by omega)⟩
      by_cases e : j = i
      · subst e; exact hf
      · exact h j (by omega) (by omega)
theorem firstSome_some {V : Type} {f : Nat → Option V} {v : V} : ∀ {k i : Nat}, firstSome f k i = some v → ∃ j, i ≤ j ∧ j < i + k ∧ f j = some v ∧ ∀ j', i ≤ j' → j' < j → f j' = none
  | 0, i, h => by cases h
  | k + 1, i, h => by
    rw [firstSome] at h
    cases hf : f i with
    | some w => rw [hf] at h; cases h; exact ⟨i, Nat.le_refl _, by omega, hf, fun j' h1 h2 => by omega⟩
    | none =>
      rw [hf] at h
      obtain ⟨j, h1, h2, h3, h4⟩ := firstSome_some (k := k) (i := i + 1) h
      refine ⟨j, by omega, by omega, h3, fun j' g1 g2 => ?_⟩
      by_cases e : j' = i
      · subst e; exact hf
      · exact h4 j' (by omega) g2
theorem firstSome_congr {V : Type} {f f' : Nat → Option V} : ∀ {k i : Nat}, (∀ j, i ≤ j → j < i + k → f j = f' j) → firstSome f k i = firstSome f' k i
  | 0, i, _ => rfl
  | k + 1, i, h => by
    rw [firstSome, firstSome, h i (Nat.le_refl _) (by omega), firstSome_congr (k := k) (i := i + 1) fun j h1 h2 => h j (by omega) (by omega)]
def scanX {V : Type} : Option V → Sum Unit V
  | none => .inl ()
  | some v => .inr v
/-- A loop that asks, number by number, and ends at the first answer. -/
theorem iter_scan {V : Type} {body : Int → Option (Stp Int (Sum Unit V))} (n : Nat) (f : Nat → Option V)
    (hstep : ∀ i, i < n → (∀ j, j < i → f j = none) → body (i : Int) = some (match f i with | none => .next ((i + 1 : Nat) : Int) | some v => .done (.inr v)))
    (hend : (∀ j, j < n → f j = none) → body (n : Int) = some (.done (.inl ()))) : iter body 0 = some (scanX (firstSome f n 0)) := by
  have key : ∀ (k i : Nat), i + k = n → (∀ j, j < i → f j = none) → iter body (i : Int) = some (scanX (firstSome f k i)) := by
    intro k
    induction k with
    | zero =>
      intro i h hi
      have : i = n := by omega
      subst this
      rw [iter_done (hend hi)]
      rfl
    | succ k ih =>
      intro i h hi
      have h1 := hstep i (by omega) hi
      rw [firstSome]
      cases hf : f i with
      | none =>
        rw [hf] at h1
        rw [iter_next h1]
        refine ih (i + 1) (by omega) fun j hj => ?_
        by_cases e : j = i
        · subst e; exact hf
        · exact hi j (by omega)
      | some v => rw [hf] at h1; rw [iter_done h1]; rfl
  exact key n 0 (by omega) fun j hj => absurd hj (Nat.not_lt_zero _)
theorem any_scan' {α : Type} (l : List α) (d : α) (p : α → Bool) : (match firstSome (fun k => if p (l.getD k d) = true then some true else none) l.length 0 with | none => false | some v => v) = l.any p := by
  cases hf : firstSome (fun k => if p (l.getD k d) = true then some true else none) l.length 0 with
  | none =>
    have h := firstSome_none.1 hf
    refine Eq.symm (List.any_eq_false.2 fun x hx => ?_)
    obtain ⟨i, hi, rfl⟩ := List.getElem_of_mem hx
    have := h i (Nat.zero_le _) (by omega)
    have e : l.getD i d = l[i] := by simp [List.getD_eq_getElem?_getD, hi]
    simp only [e] at this
    split at this
    · cases this
    · assumption
  | some w =>
    obtain ⟨j, _, hj, h, _⟩ := firstSome_some hf
    split at h
    · cases h
      exact Eq.symm (List.any_eq_true.2 ⟨l.getD j d, getD_mem (by omega), by assumption⟩)
    · cases h
/-- 'some (bif ..)' and its like, made plain. -/
theorem cond_ite {α : Type} (b : Bool) (x y : α) : (bif b then x else y) = if b = true then x else y := by cases b <;> rfl
theorem bind_some' {α β : Type} (x : α) (f : α → Option β) : Option.bind (some x) f = f x := rfl
end Go.Proofs.YtclhniadffljdaaDoor
