/- Merged of texts of ours: P0, PRanges, PChecks, PProps, PNorm, PNorm2. No condition. -/
import Derived.Test.YtkeokkmhhhhoiaaGreatDoorM
namespace Go.Proofs.YtkeokkmhhhhoiaaGreatDoor
open Go Go.SE
set_option linter.unusedVariables false
set_option linter.unusedSimpArgs false
theorem iter_none {S X : Type} {body : S → Option (Stp S X)} {s : S} (h : body s = none) : iter body s = none := by
  cases hi : iter body s with
  | none => rfl
  | some x =>
    obtain ⟨k, hk⟩ := iter_out hi
    cases k with
    | zero => cases hk
    | succ k => rw [iterN, h] at hk; cases hk
theorem iter_step {S X : Type} {body : S → Option (Stp S X)} {s : S} : iter body s = match body s with | some (.next s') => iter body s' | some (.done x) => some x | none => none := by
  cases hb : body s with
  | none => exact iter_none hb
  | some st =>
    cases st with
    | next s' => exact iter_next hb
    | done x => exact iter_done hb
theorem w64 {x : Int} (h : -9223372036854775808 ≤ x) (h' : x ≤ 9223372036854775807) : IntKind.wrap .i64 x = x := by
  have e1 : (IntKind.i64).bits = 64 := rfl
  have e2 : (IntKind.i64).signed = true := rfl
  simp only [IntKind.wrap, e1, e2, Bool.true_and, decide_eq_true_eq]
  split <;> omega
theorem wu64 {x : Int} (h : 0 ≤ x) (h' : x ≤ 18446744073709551615) : IntKind.wrap .u64 x = x := by
  have e1 : (IntKind.u64).bits = 64 := rfl
  have e2 : (IntKind.u64).signed = false := rfl
  simp only [IntKind.wrap, e1, e2, Bool.false_and]
  simp
  omega
theorem w32 {x : Int} (h : -2147483648 ≤ x) (h' : x ≤ 2147483647) : IntKind.wrap .i32 x = x := by
  have e1 : (IntKind.i32).bits = 32 := rfl
  have e2 : (IntKind.i32).signed = true := rfl
  simp only [IntKind.wrap, e1, e2, Bool.true_and, decide_eq_true_eq]
  split <;> omega
/-- One more. -/
theorem up {i : Nat} (h : i < 9223372036854775807) : IntKind.wrap .i64 ((i : Int) + 1) = ((i + 1 : Nat) : Int) := by
  rw [w64 (by omega) (by omega)]; omega
theorem down {i : Nat} (h : 0 < i) (h2 : i ≤ 9223372036854775807) : IntKind.wrap .i64 ((i : Int) - 1) = ((i - 1 : Nat) : Int) := by
  rw [w64 (by omega) (by omega)]; omega
theorem mid {i j : Nat} (h : i + j < 9223372036854775808) : IntKind.wrap .i64 (Int.fdiv (IntKind.wrap .u64 (IntKind.wrap .i64 ((i : Int) + (j : Int)))) 2) = (((i + j) / 2 : Nat) : Int) := by
  rw [w64 (x := (i : Int) + j) (by omega) (by omega), wu64 (by omega) (by omega), Int.fdiv_eq_ediv_of_nonneg _ (by omega), w64 (by omega) (by omega)]
  omega
theorem drop_getD {α : Type} {l : List α} {d : α} {i : Nat} (h : i < l.length) : l.drop i = l.getD i d :: l.drop (i + 1) := by
  rw [List.drop_eq_getElem_cons h]
  simp [List.getD_eq_getElem?_getD, h]
theorem getD_mem {α : Type} {l : List α} {d : α} {i : Nat} (h : i < l.length) : l.getD i d ∈ l := by
  simp [List.getD_eq_getElem?_getD, h]
theorem getD_pair {α : Type} {R : α → α → Prop} {d : α} : ∀ {l : List α}, l.Pairwise R → ∀ {i j : Nat}, i < j → j < l.length → R (l.getD i d) (l.getD j d)
  | [], _, i, j, _, h => absurd h (Nat.not_lt_zero _)
  | x :: l, hp, 0, j + 1, _, h => (List.pairwise_cons.1 hp).1 _ (getD_mem (by simpa using h))
  | x :: l, hp, i + 1, j + 1, hij, h => getD_pair (List.pairwise_cons.1 hp).2 (by omega) (by simpa using h)
/-- A binary search's answer. -/
def isFirst (p : Nat → Prop) (n y : Nat) : Prop := y ≤ n ∧ (∀ k, k < y → ¬ p k) ∧ (y < n → p y)
/-! ### Loops over numbers -/
section
variable {S X A : Type}
def foldX (g : Nat → A → Sum A X) (e : A → X) : Nat → Nat → A → X
  | 0, _, a => e a
  | k + 1, i, a => match g i a with | .inl a' => foldX g e k (i + 1) a' | .inr x => x
theorem iter_fold {body : S → Option (Stp S X)} (st : Nat → A → S) (n : Nat) (g : Nat → A → Sum A X) (e : A → X) (I : Nat → A → Prop)
    (hstep : ∀ i a, i < n → I i a → body (st i a) = some (match g i a with | .inl a' => .next (st (i + 1) a') | .inr x => .done x) ∧ ∀ a', g i a = .inl a' → I (i + 1) a')
    (hend : ∀ a, I n a → body (st n a) = some (.done (e a))) : ∀ (k i : Nat) (a : A), i + k = n → I i a → iter body (st i a) = some (foldX g e k i a)
  | 0, i, a, h, hi => by
    have : i = n := by omega
    subst this
    rw [iter_done (hend a hi)]
    rfl
  | k + 1, i, a, h, hi => by
    obtain ⟨h1, h2⟩ := hstep i a (by omega) hi
    rw [foldX]
    cases hg : g i a with
    | inl a' =>
      rw [hg] at h1
      rw [iter_next h1]
      exact iter_fold st n g e I hstep hend k (i + 1) a' (by omega) (h2 a' hg)
    | inr x => rw [hg] at h1; rw [iter_done h1]
end
/-- The first answer of a row of questions. -/
def firstSome {V : Type} (f : Nat → Option V) : Nat → Nat → Option V
  | 0, _ => none
  | k + 1, i => match f i with | some v => some v | none => firstSome f k (i + 1)
theorem firstSome_none {V : Type} {f : Nat → Option V} : ∀ {k i : Nat}, firstSome f k i = none ↔ ∀ j, i ≤ j → j < i + k → f j = none
  | 0, i => ⟨fun _ j h1 h2 => by omega, fun _ => rfl⟩
  | k + 1, i => by
    rw [firstSome]
    cases hf : f i with
    | some v => exact ⟨fun h => (by cases h), fun h => by have := h i (Nat.le_refl _) (by omega); rw [hf] at this; cases this⟩
    | none =>
      show firstSome f k (i + 1) = none ↔ _
      rw [firstSome_none]
      refine ⟨fun h j h1 h2 => ?_, fun h j h1 h2 => h j (by omega) (by omega)⟩
      by_cases e : j = i
      · subst e; exact hf
      · exact h j (by omega) (by omega)
theorem firstSome_some {V : Type} {f : Nat → Option V} {v : V} : ∀ {k i : Nat}, firstSome f k i = some v → ∃ j, i ≤ j ∧ j < i + k ∧ f j = some v ∧ ∀ j', i ≤ j' → j' < j → f j' = none
  | 0, i, h => by cases h
  | k + 1, i, h => by
    rw [firstSome] at h
    cases hf : f i with
    | some w => rw [hf] at h; cases h; exact ⟨i, Nat.le_refl _, by omega, hf, fun j' h1 h2 => by omega⟩
    | none =>
      rw [hf] at h
      obtain ⟨j, h1, h2, h3, h4⟩ := firstSome_some (k := k) (i := i + 1) h
      refine ⟨j, by omega, by omega, h3, fun j' g1 g2 => ?_⟩
      by_cases e : j' = i
      · subst e; exact hf
      · exact h4 j' (by omega) g2
theorem firstSome_congr {V : Type} {f f' : Nat → Option V} : ∀ {k i : Nat}, (∀ j, i ≤ j → j < i + k → f j = f' j) → firstSome f k i = firstSome f' k i
  | 0, i, _ => rfl
  | k + 1, i, h => by
    rw [firstSome, firstSome, h i (Nat.le_refl _) (by omega), firstSome_congr (k := k) (i := i + 1) fun j h1 h2 => h j (by omega) (by omega)]
def scanX {V : Type} : Option V → Sum Unit V
  | none => .inl ()
  | some v => .inr v
/-- A loop that asks, number by number, and ends at the first answer. -/
theorem iter_scan {V : Type} {body : Int → Option (Stp Int (Sum Unit V))} (n : Nat) (f : Nat → Option V)
    (hstep : ∀ i, i < n → (∀ j, j < i → f j = none) → body (i : Int) = some (match f i with | none => .next ((i + 1 : Nat) : Int) | some v => .done (.inr v)))
    (hend : (∀ j, j < n → f j = none) → body (n : Int) = some (.done (.inl ()))) : iter body 0 = some (scanX (firstSome f n 0)) := by
  have key : ∀ (k i : Nat), i + k = n → (∀ j, j < i → f j = none) → iter body (i : Int) = some (scanX (firstSome f k i)) := by
    intro k
    induction k with
    | zero =>
      intro i h hi
      have : i = n := by omega
      subst this
      rw [iter_done (hend hi)]
      rfl
    | succ k ih =>
      intro i h hi
      have h1 := hstep i (by omega) hi
      rw [firstSome]
      cases hf : f i with
      | none =>
        rw [hf] at h1
        rw [iter_next h1]
        refine ih (i + 1) (by omega) fun j hj => ?_
        by_cases e : j = i
        · subst e; exact hf
        · exact hi j (by omega)
      | some v => rw [hf] at h1; rw [iter_done h1]; rfl
  exact key n 0 (by omega) fun j hj => absurd hj (Nat.not_lt_zero _)
theorem any_scan' {α : Type} (l : List α) (d : α) (p : α → Bool) : (match firstSome (fun k => if p (l.getD k d) = true then some true else none) l.length 0 with | none => false | some v => v) = l.any p := by
  cases hf : firstSome (fun k => if p (l.getD k d) = true then some true else none) l.length 0 with
  | none =>
    have h := firstSome_none.1 hf
    refine Eq.symm (List.any_eq_false.2 fun x hx => ?_)
    obtain ⟨i, hi, rfl⟩ := List.getElem_of_mem hx
    have := h i (Nat.zero_le _) (by omega)
    have e : l.getD i d = l[i] := by simp [List.getD_eq_getElem?_getD, hi]
    simp only [e] at this
    split at this
    · cases this
    · assumption
  | some w =>
    obtain ⟨j, _, hj, h, _⟩ := firstSome_some hf
    split at h
    · cases h
      exact Eq.symm (List.any_eq_true.2 ⟨l.getD j d, getD_mem (by omega), by assumption⟩)
    · cases h
/-- 'some (bif ..)' and its like, made plain. -/
theorem cond_ite {α : Type} (b : Bool) (x y : α) : (bif b then x else y) = if b = true then x else y := by cases b <;> rfl
theorem bind_some' {α β : Type} (x : α) (f : α → Option β) : Option.bind (some x) f = f x := rfl
def hitR (r : Int) (x : T_api_Range) : Bool := decide (x.f_Lo ≤ r) && decide (r ≤ x.f_Hi)
def fndO : Option T_api_Range → Int × Bool
  | some x => (x.f_Value, true)
  | none => (0, false)
/-- What a search of ranges answers. -/
def fnd (l : List T_api_Range) (r : Int) : Int × Bool := fndO (l.find? (hitR r))
theorem find_loop (l : List T_api_Range) (r : Int) (hl : l.length < 4611686018427387904) : ∀ (k i : Nat), i + k = l.length → iter (m_eponymref03_Find_L5 l r) (i : Int) = some (match (l.drop i).find? (hitR r) with | some x => .inr (x.f_Value, true) | none => .inl ())
  | 0, i, h => by
    rw [iter_step]
    simp [m_eponymref03_Find_L5, show ¬ i < l.length by omega, List.drop_of_length_le (show l.length ≤ i by omega)]
  | k + 1, i, h => by
    have ih := find_loop l r hl k (i + 1) (by omega)
    rw [iter_step, drop_getD (d := d_api_Range) (show i < l.length by omega)]
    by_cases h1 : (l.getD i d_api_Range).f_Lo ≤ r <;> by_cases h2 : r ≤ (l.getD i d_api_Range).f_Hi <;>
      simp [m_eponymref03_Find_L5, m_eponymref03_Find_K8, show i < l.length by omega, h1, h2, hitR, up (show i < 9223372036854775807 by omega), ih, List.find?_cons, -List.getD_eq_getElem?_getD, -Int.natCast_add]
theorem find_eq (l : List T_api_Range) (r : Int) (hl : l.length < 4611686018427387904) : m_eponymref03_Find l r = some (fnd l r) := by
  have h := find_loop l r hl l.length 0 (by omega)
  simp only [m_eponymref03_Find]
  rw [show (0 : Int) = ((0 : Nat) : Int) from rfl, h]
  unfold fnd
  rw [List.drop_zero]
  cases l.find? (hitR r) <;> rfl
/-- In order. -/
def ordered (l : List T_api_Range) : Prop := (∀ x ∈ l, x.f_Lo ≤ x.f_Hi) ∧ l.Pairwise fun x y => x.f_Hi < y.f_Lo
theorem search_eq (l : List T_api_Range) (r : Int) (hl : l.length < 4611686018427387904) (ho : ordered l) : ∃ y : Nat, m_sort_Search_ranges_Find_1 (l.length : Int) l r = some ((y : Nat) : Int) ∧ isFirst (fun k => (l.getD k d_api_Range).f_Hi ≥ r) l.length y := by
  have hmono : ∀ i j, i < j → j < l.length → (l.getD i d_api_Range).f_Hi < (l.getD j d_api_Range).f_Hi := fun i j hij hj => by
    have h1 := getD_pair (d := d_api_Range) ho.2 hij hj
    have h2 := ho.1 _ (getD_mem (d := d_api_Range) hj)
    omega
  have key : ∃ x, iter (m_sort_Search_ranges_Find_1_L5 l r) ((0 : Int), (l.length : Int)) = some x ∧ ∃ y : Nat, x = (y : Int) ∧ isFirst (fun k => (l.getD k d_api_Range).f_Hi ≥ r) l.length y := by
    refine iter_inv (fun s => ∃ i j : Nat, s = ((i : Int), (j : Int)) ∧ i ≤ j ∧ j ≤ l.length ∧ (∀ k, k < i → ¬ (l.getD k d_api_Range).f_Hi ≥ r) ∧ (j < l.length → (l.getD j d_api_Range).f_Hi ≥ r)) (fun s => (s.2 - s.1).toNat) _ ?_ _ ⟨0, l.length, rfl, Nat.zero_le _, Nat.le_refl _, fun k hk => absurd hk (Nat.not_lt_zero _), fun h => absurd h (Nat.lt_irrefl _)⟩
    rintro s ⟨i, j, rfl, hij, hjn, hlo, hhi⟩
    by_cases hlt : i < j
    · left
      have hm := mid (i := i) (j := j) (by omega)
      have hmi : (i + j) / 2 < l.length := by omega
      by_cases hp : (l.getD ((i + j) / 2) d_api_Range).f_Hi ≥ r
      · refine ⟨((i : Int), (((i + j) / 2 : Nat) : Int)), ?_, ⟨i, (i + j) / 2, rfl, by omega, by omega, hlo, fun _ => hp⟩, ?_⟩
        · simp only [m_sort_Search_ranges_Find_1_L5, m_ranges_Find_1, hm]
          rw [if_pos ⟨by omega, by omega⟩]
          simp only [Int.toNat_natCast, Option.bind_some, decide_eq_true hp, decide_eq_true (show (i : Int) < j by omega)]
          rfl
        · show ((((i + j) / 2 : Nat) : Int) - i).toNat < ((j : Int) - i).toNat
          omega
      · refine ⟨((((i + j) / 2 + 1 : Nat) : Int), (j : Int)), ?_, ⟨(i + j) / 2 + 1, j, rfl, by omega, hjn, fun k hk hkr => ?_, hhi⟩, ?_⟩
        · simp only [m_sort_Search_ranges_Find_1_L5, m_ranges_Find_1, hm]
          rw [if_pos ⟨by omega, by omega⟩]
          simp only [Int.toNat_natCast, Option.bind_some, decide_eq_false hp, decide_eq_true (show (i : Int) < j by omega), up (show (i + j) / 2 < 9223372036854775807 by omega)]
          rfl
        · by_cases e : k = (i + j) / 2
          · subst e; exact hp hkr
          · have := hmono k ((i + j) / 2) (by omega) hmi
            omega
        · show ((j : Int) - (((i + j) / 2 + 1 : Nat) : Int)).toNat < ((j : Int) - i).toNat
          omega
    · right
      have e : i = j := by omega
      subst e
      refine ⟨(i : Int), ?_, i, rfl, hjn, hlo, hhi⟩
      simp [m_sort_Search_ranges_Find_1_L5]
  obtain ⟨x, hx, y, rfl, hq⟩ := key
  refine ⟨y, ?_, hq⟩
  simp only [m_sort_Search_ranges_Find_1, hx, Option.bind_some]
theorem first_find {l : List T_api_Range} {r : Int} (ho : ordered l) {y : Nat} (h : isFirst (fun k => (l.getD k d_api_Range).f_Hi ≥ r) l.length y) :
    fnd l r = if y < l.length then (if (l.getD y d_api_Range).f_Lo ≤ r then ((l.getD y d_api_Range).f_Value, true) else (0, false)) else (0, false) := by
  obtain ⟨h1, h2, h3⟩ := h
  -- nothing ahead of y is hit
  have hno : (l.take y).find? (hitR r) = none := by
    rw [List.find?_eq_none]
    intro x hx
    obtain ⟨k, hk, rfl⟩ := List.getElem_of_mem hx
    have hk' : k < y := by rw [List.length_take] at hk; omega
    have : ¬ (l.getD k d_api_Range).f_Hi ≥ r := h2 k hk'
    have e : l.getD k d_api_Range = (l.take y)[k] := by simp [List.getD_eq_getElem?_getD, show k < l.length by omega]
    rw [e] at this
    simp only [hitR, Bool.and_eq_true, decide_eq_true_eq]
    omega
  have hsp : fnd l r = fndO ((l.drop y).find? (hitR r)) := by
    unfold fnd
    conv => lhs; rw [← List.take_append_drop y l, List.find?_append, hno]
    simp
  rw [hsp]
  by_cases hy : y < l.length
  · rw [if_pos hy, drop_getD (d := d_api_Range) hy]
    have hhi : (l.getD y d_api_Range).f_Hi ≥ r := h3 hy
    by_cases hlo : (l.getD y d_api_Range).f_Lo ≤ r
    · have : hitR r (l.getD y d_api_Range) = true := by simp only [hitR, Bool.and_eq_true, decide_eq_true_eq]; omega
      rw [if_pos hlo, List.find?_cons, this]
      rfl
    · have : hitR r (l.getD y d_api_Range) = false := by simp [hitR, hlo, -List.getD_eq_getElem?_getD]
      rw [if_neg hlo, List.find?_cons, this]
      have hrest : (l.drop (y + 1)).find? (hitR r) = none := by
        rw [List.find?_eq_none]
        intro x hx
        obtain ⟨k, hk, rfl⟩ := List.getElem_of_mem hx
        rw [List.length_drop] at hk
        have e : l.getD (y + 1 + k) d_api_Range = (l.drop (y + 1))[k]'(by rw [List.length_drop]; exact hk) := by simp [List.getD_eq_getElem?_getD, show y + 1 + k < l.length by omega]
        have h4 := getD_pair (d := d_api_Range) ho.2 (show y < y + 1 + k by omega) (by omega)
        rw [e] at h4
        simp only [hitR, Bool.and_eq_true, decide_eq_true_eq]
        omega
      simp only [hrest]
      rfl
  · rw [if_neg hy, List.drop_of_length_le (by omega)]
    rfl
theorem ranges_find_eq (l : List T_api_Range) (r : Int) (hl : l.length < 4611686018427387904) (ho : ordered l) : m_ranges_Find l r = some (fnd l r) := by
  obtain ⟨y, hy, hf⟩ := search_eq l r hl ho
  rw [first_find ho hf]
  simp only [m_ranges_Find, hy, Option.bind_some]
  by_cases h1 : y < l.length
  · have e1 : ((y : Int) == (l.length : Int)) = false := by simp; omega
    have e2 : (0 : Int) ≤ y ∧ (y : Int) < l.length := by omega
    by_cases h2 : (l.getD y d_api_Range).f_Lo ≤ r
    · rw [e1, cond_false, if_pos e2, if_pos h1, if_pos h2]
      simp only [Int.toNat_natCast, Option.bind_some, m_ranges_Find_K3, if_pos e2]
      rw [decide_eq_false (by omega)]
      rfl
    · rw [e1, cond_false, if_pos e2, if_pos h1, if_neg h2]
      simp only [Int.toNat_natCast, Option.bind_some, m_ranges_Find_K3]
      rw [decide_eq_true (by omega)]
      rfl
  · have e1 : ((y : Int) == (l.length : Int)) = true := by have := hf.1; simp; omega
    rw [e1, if_neg h1]
    rfl
def mayB (x : T_api_Range) : Bool := decide (x.f_Lo ≥ 0) && decide (x.f_Lo ≤ x.f_Hi) && decide (x.f_Hi ≤ 1114111) && decide (x.f_Value ≥ 0) && decide (x.f_Value ≤ 999999)
theorem may_eq (x : T_api_Range) : m_eponymref03_May x = some (mayB x) := by
  unfold m_eponymref03_May mayB
  by_cases h1 : x.f_Lo ≥ 0 <;> by_cases h2 : x.f_Lo ≤ x.f_Hi <;> by_cases h3 : x.f_Hi ≤ 1114111 <;> by_cases h4 : x.f_Value ≥ 0 <;> simp [h1, h2, h3, h4]
/-- What is wrong with range i of a table. -/
def chkF (l : List T_api_Range) (i : Nat) : Option (Int × Int) :=
  if mayB (l.getD i d_api_Range) = false then some (i, 4)
  else if 0 < i ∧ (l.getD i d_api_Range).f_Lo ≤ (l.getD (i - 1) d_api_Range).f_Hi then some (i, 6) else none
def chkR (l : List T_api_Range) : Int × Int := if 2000 < l.length then (0, 18) else (firstSome (chkF l) l.length 0).getD (0, 0)
theorem check03_eq (l : List T_api_Range) : m_eponymref03_Check l = some (chkR l) := by
  unfold m_eponymref03_Check chkR
  by_cases hn : 2000 < l.length
  · rw [if_pos hn, decide_eq_true (by omega)]; rfl
  · rw [if_neg hn, decide_eq_false (by omega), cond_false]
    rw [iter_scan l.length (chkF l) (fun i hi _ => ?_) (fun _ => ?_)]
    · cases firstSome (chkF l) l.length 0 <;> rfl
    · unfold m_eponymref03_Check_L5 chkF
      rw [decide_eq_true (by omega), cond_true, if_pos ⟨by omega, by omega⟩, Int.toNat_natCast, may_eq, bind_some']
      cases hm : mayB (l.getD i d_api_Range) with
      | false => rfl
      | true =>
        simp only [Bool.not_true, cond_false, Bool.true_eq_false, if_false]
        by_cases h0 : 0 < i
        · rw [decide_eq_true (by omega), cond_true, if_pos ⟨by omega, by omega⟩, down h0 (by omega), if_pos ⟨by omega, by omega⟩, bind_some', Int.toNat_natCast]
          by_cases h1 : (l.getD i d_api_Range).f_Lo ≤ (l.getD (i - 1) d_api_Range).f_Hi
          · rw [if_pos ⟨h0, h1⟩, decide_eq_true h1]; rfl
          · rw [if_neg (fun h => h1 h.2), decide_eq_false h1]
            simp only [m_eponymref03_Check_K9, cond_false, up (show i < 9223372036854775807 by omega)]
        · rw [decide_eq_false (by omega), cond_false, bind_some', if_neg (fun h => h0 h.1)]
          simp only [m_eponymref03_Check_K9, cond_false, up (show i < 9223372036854775807 by omega)]
    · unfold m_eponymref03_Check_L5
      rw [decide_eq_false (by omega)]; rfl
theorem pairwise_of_steps {α : Type} {R : α → α → Prop} {d : α} (tr : ∀ a b c, R a b → R b c → R a c) : ∀ (l : List α), (∀ i, 0 < i → i < l.length → R (l.getD (i - 1) d) (l.getD i d)) → l.Pairwise R
  | [], _ => .nil
  | x :: l, h => by
    have ih := pairwise_of_steps tr l fun i h0 hi => by have := h (i + 1) (by omega) (by simpa using hi); rw [show i + 1 - 1 = (i - 1) + 1 by omega] at this; simpa using this
    refine List.pairwise_cons.2 ⟨?_, ih⟩
    cases l with
    | nil => intro y hy; cases hy
    | cons y l =>
      have h1 : R x y := h 1 (by omega) (by simp)
      intro z hz
      rcases List.mem_cons.1 hz with rfl | hz
      · exact h1
      · exact tr _ _ _ h1 ((List.pairwise_cons.1 ih).1 z hz)
theorem chk_right {l : List T_api_Range} (h : (chkR l).2 = 0) : l.length ≤ 2000 ∧ ordered l ∧ ∀ x ∈ l, mayB x = true := by
  unfold chkR at h
  by_cases hn : 2000 < l.length
  · rw [if_pos hn] at h; cases h
  · rw [if_neg hn] at h
    have hnone : firstSome (chkF l) l.length 0 = none := by
      cases hf : firstSome (chkF l) l.length 0 with
      | none => rfl
      | some v =>
        obtain ⟨j, _, _, hj, _⟩ := firstSome_some hf
        rw [hf] at h
        simp only [Option.getD_some] at h
        unfold chkF at hj
        split at hj
        · cases hj; cases h
        · split at hj
          · cases hj; cases h
          · cases hj
    have hall := firstSome_none.1 hnone
    have hmay : ∀ i, i < l.length → mayB (l.getD i d_api_Range) = true := fun i hi => by
      have := hall i (Nat.zero_le _) (by omega)
      unfold chkF at this
      split at this
      · cases this
      · rename_i hm; simpa using hm
    have hm : ∀ x ∈ l, mayB x = true := fun x hx => by
      obtain ⟨i, hi, rfl⟩ := List.getElem_of_mem hx
      have := hmay i hi
      simpa [List.getD_eq_getElem?_getD, hi] using this
    have hstep : ∀ i, 0 < i → i < l.length → (l.getD (i - 1) d_api_Range).f_Hi < (l.getD i d_api_Range).f_Lo := fun i h0 hi => by
      have := hall i (Nat.zero_le _) (by omega)
      unfold chkF at this
      split at this
      · cases this
      · split at this
        · cases this
        · rename_i hc; omega
    have hlo : ∀ x ∈ l, x.f_Lo ≤ x.f_Hi := fun x hx => by
      have := hm x hx
      simp only [mayB, Bool.and_eq_true, decide_eq_true_eq] at this
      omega
    refine ⟨by omega, ⟨hlo, ?_⟩, hm⟩
    -- neighbours suffice, as each range is no emptier than a rune
    have hp : l.Pairwise fun x y => x.f_Hi < y.f_Lo ∧ y.f_Lo ≤ y.f_Hi := by
      refine pairwise_of_steps (d := d_api_Range) (fun a b c h1 h2 => ⟨by omega, h2.2⟩) l fun i h0 hi => ⟨hstep i h0 hi, hlo _ (getD_mem hi)⟩
    exact hp.imp fun h => h.1
def tabs (p : T_api_Props) : List (List T_api_Range) := [p.f_Exceptions, p.f_Unassigned, p.f_Joiners, p.f_OldHangul, p.f_Unstable, p.f_Ignorable, p.f_Letters, p.f_Joining, p.f_Scripts, p.f_Directions, p.f_Marks]
theorem tabs_lit (p : T_api_Props) : [(tabs p).getD 0 [], (tabs p).getD 1 [], (tabs p).getD 2 [], (tabs p).getD 3 [], (tabs p).getD 4 [], (tabs p).getD 5 [], (tabs p).getD 6 [], (tabs p).getD 7 [], (tabs p).getD 8 [], (tabs p).getD 9 [], (tabs p).getD 10 []] = tabs p := rfl
def small07 (p : T_api_Props) : Prop := ∀ l ∈ tabs p, l.length ≤ 40
theorem great07 (p : T_api_Props) : ∃ b, m_eponymlaw07_Great p = some b ∧ (b = false → small07 p) := by
  unfold m_eponymlaw07_Great
  rw [show m_eponymref07_Tables p = some (tabs p) from rfl, bind_some']
  rw [iter_scan 11 (fun i => if 40 < ((tabs p).getD i []).length then some true else none) (fun i hi _ => ?_) (fun _ => ?_)]
  · cases hf : firstSome (fun i => if 40 < ((tabs p).getD i []).length then some true else none) 11 0 with
    | some v =>
      obtain ⟨j, _, _, hj, _⟩ := firstSome_some hf
      have : v = true := by
        split at hj
        · cases hj; rfl
        · cases hj
      subst this
      exact ⟨true, rfl, fun h => by cases h⟩
    | none =>
      refine ⟨false, rfl, fun _ l hl => ?_⟩
      obtain ⟨i, hi, rfl⟩ := List.getElem_of_mem hl
      have h := firstSome_none.1 hf i (Nat.zero_le _) (by have : (tabs p).length = 11 := rfl; omega)
      have e : (tabs p).getD i [] = (tabs p)[i] := by simp [List.getD_eq_getElem?_getD, hi]
      simp only [e] at h
      split at h
      · cases h
      · omega
  · unfold m_eponymlaw07_Great_L6
    rw [tabs_lit, decide_eq_true (by omega), cond_true, if_pos ⟨by omega, by omega⟩, Int.toNat_natCast]
    by_cases h : 40 < ((tabs p).getD i []).length
    · rw [decide_eq_true (by omega), if_pos h]; rfl
    · rw [decide_eq_false (by omega), if_neg h, cond_false, up (by omega)]
  · unfold m_eponymlaw07_Great_L6
    rw [decide_eq_false (by omega)]; rfl
def mxs : List Int := [5, 0, 0, 0, 0, 0, 0, 4, 5, 11, 0]
def valF (m : Int) (l : List T_api_Range) (i : Nat) : Option (Int × Int) :=
  if 0 < m ∧ ((l.getD i d_api_Range).f_Value < 1 ∨ (l.getD i d_api_Range).f_Value > m) then some (i, 17) else none
def tabF (p : T_api_Props) (j : Nat) : Option (Int × Int) :=
  if (chkR ((tabs p).getD j [])).2 ≠ 0 then some (chkR ((tabs p).getD j [])) else firstSome (valF (mxs.getD j 0) ((tabs p).getD j [])) ((tabs p).getD j []).length 0
def chk07 (p : T_api_Props) : Int × Int := (firstSome (tabF p) 11 0).getD (0, 0)
theorem val_loop (p : T_api_Props) (j : Nat) (hj : j < 11) (hl : ((tabs p).getD j []).length ≤ 2000) : iter (m_eponymref07_Check_L13 (tabs p) (j : Int)) 0 = some (scanX (firstSome (valF (mxs.getD j 0) ((tabs p).getD j [])) ((tabs p).getD j []).length 0)) := by
  refine iter_scan _ _ (fun i hi _ => ?_) (fun _ => ?_)
  · unfold m_eponymref07_Check_L13 valF
    rw [tabs_lit, if_pos ⟨by omega, by omega⟩]
    simp only [Int.toNat_natCast]
    rw [decide_eq_true (by omega), cond_true]
    have q1 : 0 ≤ (j : Int) ∧ (j : Int) < 11 := by omega
    have q2 : 0 ≤ (i : Int) ∧ (i : Int) < (((tabs p).getD j []).length : Int) := by omega
    simp only [if_pos q1, if_pos q2]
    rw [show ([(5 : Int), (0 : Int), (0 : Int), (0 : Int), (0 : Int), (0 : Int), (0 : Int), (4 : Int), (5 : Int), (11 : Int), (0 : Int)] : List Int) = mxs from rfl]
    by_cases h0 : 0 < mxs.getD j 0
    · rw [decide_eq_true (show mxs.getD j 0 > 0 from h0), cond_true]
      by_cases h1 : (((tabs p).getD j []).getD i d_api_Range).f_Value < 1
      · simp only [h0, h1, true_or, and_self, if_true, decide_true, cond_true, bind_some']; rfl
      · by_cases h2 : (((tabs p).getD j []).getD i d_api_Range).f_Value > mxs.getD j 0
        · simp only [h0, h1, h2, or_true, and_self, if_true, decide_true, decide_false, cond_false, bind_some']; rfl
        · simp only [h0, h1, h2, or_self, and_false, if_false, decide_false, cond_false, bind_some', m_eponymref07_Check_K16, up (show i < 9223372036854775807 by omega)]
    · rw [decide_eq_false (show ¬ mxs.getD j 0 > 0 from h0)]
      simp only [h0, false_and, if_false, cond_false, bind_some', m_eponymref07_Check_K16, up (show i < 9223372036854775807 by omega)]
  · unfold m_eponymref07_Check_L13
    rw [tabs_lit, if_pos ⟨by omega, by omega⟩]
    simp only [Int.toNat_natCast]
    rw [decide_eq_false (by omega)]; rfl
theorem check07_eq (p : T_api_Props) : m_eponymref07_Check p = some (chk07 p) := by
  unfold m_eponymref07_Check chk07
  rw [show m_eponymref07_Tables p = some (tabs p) from rfl, bind_some']
  rw [iter_scan 11 (tabF p) (fun j hj _ => ?_) (fun _ => ?_)]
  · cases firstSome (tabF p) 11 0 <;> rfl
  · unfold m_eponymref07_Check_L6 tabF
    rw [tabs_lit, decide_eq_true (by omega), cond_true, if_pos ⟨by omega, by omega⟩, Int.toNat_natCast, check03_eq, bind_some']
    by_cases h : (chkR ((tabs p).getD j [])).2 = 0
    · rw [show ((chkR ((tabs p).getD j [])).2 != 0) = false by rw [h]; rfl, cond_false, if_neg (fun h' => h' h), val_loop p j hj (chk_right h).1]
      cases firstSome (valF (mxs.getD j 0) ((tabs p).getD j [])) ((tabs p).getD j []).length 0 with
      | none => simp only [bind_some', scanX, up (show j < 9223372036854775807 by omega)]
      | some v => rfl
    · rw [show ((chkR ((tabs p).getD j [])).2 != 0) = true from bne_iff_ne.2 h, if_pos h]; rfl
  · unfold m_eponymref07_Check_L6
    rw [decide_eq_false (by omega)]; rfl
theorem chk07_right {p : T_api_Props} (h : (chk07 p).2 = 0) : ∀ j, j < 11 → (chkR ((tabs p).getD j [])).2 = 0 ∧ ∀ i, i < ((tabs p).getD j []).length → valF (mxs.getD j 0) ((tabs p).getD j []) i = none := by
  unfold chk07 at h
  have hnone : firstSome (tabF p) 11 0 = none := by
    cases hv : firstSome (tabF p) 11 0 with
    | none => rfl
    | some v =>
      obtain ⟨j, _, _, hj, _⟩ := firstSome_some hv
      rw [hv] at h
      unfold tabF at hj
      split at hj
      · rename_i hne; cases hj; exact absurd h hne
      · obtain ⟨i, _, _, hi, _⟩ := firstSome_some hj
        unfold valF at hi
        split at hi
        · cases hi; cases h
        · cases hi
  intro j hj
  have := firstSome_none.1 hnone j (Nat.zero_le _) (by omega)
  unfold tabF at this
  split at this
  · cases this
  · rename_i h0
    exact ⟨Decidable.not_not.1 h0, fun i hi => firstSome_none.1 this i (Nat.zero_le _) (by omega)⟩
theorem tab_ordered {p : T_api_Props} (h : (chk07 p).2 = 0) {j : Nat} (hj : j < 11) : ordered ((tabs p).getD j []) ∧ ((tabs p).getD j []).length ≤ 2000 :=
  let c := chk_right (chk07_right h j hj).1
  ⟨c.2.1, c.1⟩
def rightB (r : Int) : Bool := decide (r ≥ 0) && decide (r ≤ 1114111) && !(decide (r ≥ 55296) && decide (r ≤ 57343))
theorem right_eq (r : Int) : m_eponymref01_Right r = some (rightB r) := by
  unfold m_eponymref01_Right rightB
  cases decide (r ≥ 0) <;> cases decide (r ≤ 1114111) <;> cases decide (r ≥ 55296) <;> rfl
def hangB (r : Int) : Bool := (decide (r ≥ 44032) && decide (r ≤ 55203)) || ((decide (r ≥ 4352) && decide (r ≤ 4370)) || ((decide (r ≥ 4449) && decide (r ≤ 4469)) || (decide (r ≥ 4520) && decide (r ≤ 4546))))
theorem hang_eq (r : Int) : m_eponymref04_hangul r = some (hangB r) := by
  unfold m_eponymref04_hangul hangB
  cases decide (r ≥ 44032) <;> cases decide (r ≤ 55203) <;> cases decide (r ≥ 4352) <;> cases decide (r ≤ 4370) <;> cases decide (r ≥ 4449) <;> cases decide (r ≤ 4469) <;> cases decide (r ≥ 4520) <;> rfl
def small04 (t : T_api_Norm) : Prop := t.f_Rows.length ≤ 40 ∧ t.f_Classes.length ≤ 40 ∧ t.f_Excluded.length ≤ 40 ∧ ∀ x ∈ t.f_Rows, x.f_To.length ≤ 4
theorem great04 (t : T_api_Norm) : ∃ b, m_eponymlaw04_Great t = some b ∧ (b = false → small04 t) := by
  unfold m_eponymlaw04_Great m_eponymlaw04_Great_K2
  by_cases h1 : 40 < t.f_Rows.length
  · exact ⟨true, by rw [decide_eq_true (by omega)]; rfl, fun h => by cases h⟩
  by_cases h2 : 40 < t.f_Classes.length
  · exact ⟨true, by rw [decide_eq_false (by omega), decide_eq_true (by omega)]; rfl, fun h => by cases h⟩
  by_cases h3 : 40 < t.f_Excluded.length
  · exact ⟨true, by rw [decide_eq_false (by omega), decide_eq_false (by omega), decide_eq_true (by omega)]; rfl, fun h => by cases h⟩
  rw [decide_eq_false (by omega), decide_eq_false (by omega), decide_eq_false (by omega)]
  simp only [cond_false, bind_some']
  rw [iter_scan t.f_Rows.length (fun i => if 4 < (t.f_Rows.getD i d_api_Row).f_To.length then some true else none) (fun i hi _ => ?_) (fun _ => ?_)]
  · cases hf : firstSome (fun i => if 4 < (t.f_Rows.getD i d_api_Row).f_To.length then some true else none) t.f_Rows.length 0 with
    | some v =>
      obtain ⟨j, _, _, hj, _⟩ := firstSome_some hf
      have : v = true := by
        split at hj
        · cases hj; rfl
        · cases hj
      subst this
      exact ⟨true, rfl, fun h => by cases h⟩
    | none =>
      refine ⟨false, rfl, fun _ => ⟨by omega, by omega, by omega, fun x hx => ?_⟩⟩
      obtain ⟨i, hi, rfl⟩ := List.getElem_of_mem hx
      have := firstSome_none.1 hf i (Nat.zero_le _) (by omega)
      have e : t.f_Rows.getD i d_api_Row = t.f_Rows[i] := by simp [List.getD_eq_getElem?_getD, hi]
      simp only [e] at this
      split at this
      · cases this
      · omega
  · unfold m_eponymlaw04_Great_L7
    rw [decide_eq_true (by omega), cond_true, if_pos ⟨by omega, by omega⟩, Int.toNat_natCast]
    by_cases h4 : 4 < (t.f_Rows.getD i d_api_Row).f_To.length
    · rw [decide_eq_true (by omega), if_pos h4]; rfl
    · rw [decide_eq_false (by omega), if_neg h4, cond_false, up (by omega)]
  · unfold m_eponymlaw04_Great_L7
    rw [decide_eq_false (by omega)]; rfl
/-! ### Rows -/
def rowIdx (t : T_api_Norm) (r : Int) : Int := (firstSome (fun i => if (t.f_Rows.getD i d_api_Row).f_From = r then some (i : Int) else none) t.f_Rows.length 0).getD (-1)
theorem rowIdx_eq (t : T_api_Norm) (r : Int) (hn : t.f_Rows.length ≤ 2000) : m_eponymref04_Row t r = some (rowIdx t r) := by
  unfold m_eponymref04_Row rowIdx
  rw [iter_scan t.f_Rows.length (fun i => if (t.f_Rows.getD i d_api_Row).f_From = r then some (i : Int) else none) (fun i hi _ => ?_) (fun _ => ?_)]
  · cases firstSome (fun i => if (t.f_Rows.getD i d_api_Row).f_From = r then some (i : Int) else none) t.f_Rows.length 0 <;> rfl
  · unfold m_eponymref04_Row_L5
    rw [decide_eq_true (by omega), cond_true, if_pos ⟨by omega, by omega⟩, Int.toNat_natCast]
    by_cases h : (t.f_Rows.getD i d_api_Row).f_From = r
    · rw [if_pos h, beq_iff_eq.2 h]; rfl
    · rw [if_neg h, beq_false_of_ne h, cond_false, up (by omega)]
  · unfold m_eponymref04_Row_L5
    rw [decide_eq_false (by omega)]; rfl
def aheadF (t : T_api_Norm) (i : Nat) : Int := (firstSome (fun k => if (t.f_Rows.getD k d_api_Row).f_From = (t.f_Rows.getD i d_api_Row).f_To.getD 0 0 then some (k : Int) else none) i 0).getD (-1)
theorem ahead_eq (t : T_api_Norm) (i : Nat) (hn : t.f_Rows.length ≤ 2000) (hi : i < t.f_Rows.length) (hto : 0 < (t.f_Rows.getD i d_api_Row).f_To.length) : m_eponymref04_ahead t (i : Int) = some (aheadF t i) := by
  unfold m_eponymref04_ahead aheadF
  rw [iter_scan i (fun k => if (t.f_Rows.getD k d_api_Row).f_From = (t.f_Rows.getD i d_api_Row).f_To.getD 0 0 then some (k : Int) else none) (fun k hk _ => ?_) (fun _ => ?_)]
  · cases firstSome (fun k => if (t.f_Rows.getD k d_api_Row).f_From = (t.f_Rows.getD i d_api_Row).f_To.getD 0 0 then some (k : Int) else none) i 0 <;> rfl
  · unfold m_eponymref04_ahead_L5
    rw [decide_eq_true (by omega), cond_true, if_pos ⟨by omega, by omega⟩, if_pos ⟨by omega, by omega⟩]
    simp only [Int.toNat_natCast]
    rw [if_pos ⟨by omega, by omega⟩]
    by_cases h : (t.f_Rows.getD k d_api_Row).f_From = (t.f_Rows.getD i d_api_Row).f_To.getD 0 0
    · rw [if_pos h, beq_iff_eq.2 h]; rfl
    · rw [if_neg h, beq_false_of_ne h, cond_false, up (by omega)]
  · unfold m_eponymref04_ahead_L5
    rw [decide_eq_false (by omega)]; rfl
theorem ahead_lt (t : T_api_Norm) (i : Nat) : aheadF t i < i ∧ -1 ≤ aheadF t i := by
  unfold aheadF
  cases hf : firstSome (fun k => if (t.f_Rows.getD k d_api_Row).f_From = (t.f_Rows.getD i d_api_Row).f_To.getD 0 0 then some (k : Int) else none) i 0 with
  | none => simp only [Option.getD_none]; omega
  | some v =>
    obtain ⟨j, _, h2, hj, _⟩ := firstSome_some hf
    split at hj
    · cases hj; simp only [Option.getD_some]; omega
    · cases hj
/-- Is there a chain of more rows from row k on? -/
def deepF (t : T_api_Norm) : Nat → Int → Bool
  | 0, k => decide (0 ≤ k)
  | n + 1, k => if k < 0 then false else deepF t n (aheadF t k.toNat)
theorem deep_loop (t : T_api_Norm) (hn : t.f_Rows.length ≤ 2000) (i : Nat) (hi : i < t.f_Rows.length) (hto : ∀ j, j ≤ i → 0 < (t.f_Rows.getD j d_api_Row).f_To.length) : ∀ (d n : Nat) (k : Int), n + d = 8 → k ≤ i → iter (m_eponymref04_row_L15 t) ((n : Int), k) = some (if deepF t d k = true then .inr 9 else .inl ())
  | 0, n, k, h, hk => by
    obtain rfl : n = 8 := by omega
    have e : IntKind.wrap .i64 (((8 : Nat) : Int) + 1) = 9 := up (i := 8) (by omega)
    by_cases h0 : 0 ≤ k
    · refine iter_done ?_
      simp only [m_eponymref04_row_L15, e]
      rw [decide_eq_true (show k ≥ 0 by omega), show deepF t 0 k = true from decide_eq_true h0]
      rfl
    · refine iter_done ?_
      simp only [m_eponymref04_row_L15, e]
      rw [decide_eq_false (show ¬ k ≥ 0 by omega), show deepF t 0 k = false from decide_eq_false h0]
      rfl
  | d + 1, n, k, h, hk => by
    by_cases h0 : 0 ≤ k
    · obtain ⟨j, rfl⟩ : ∃ j : Nat, k = j := ⟨k.toNat, by omega⟩
      have hl := ahead_lt t j
      have ih := deep_loop t hn i hi hto d (n + 1) (aheadF t j) (by omega) (by omega)
      have e : deepF t (d + 1) (j : Int) = deepF t d (aheadF t j) := by rw [deepF, if_neg (by omega), Int.toNat_natCast]
      rw [e, ← ih]
      refine iter_next ?_
      simp only [m_eponymref04_row_L15]
      rw [decide_eq_true (show (j : Int) ≥ 0 by omega), up (show n < 9223372036854775807 by omega), decide_eq_false (show ¬ ((n + 1 : Nat) : Int) > 8 by omega), ahead_eq t j hn (by omega) (hto j (by omega))]
      rfl
    · have e : deepF t (d + 1) k = false := by rw [deepF, if_pos (by omega)]
      rw [e]
      refine iter_done ?_
      simp only [m_eponymref04_row_L15]
      rw [decide_eq_false (show ¬ k ≥ 0 by omega)]
      rfl
def badTo (x : Int) : Bool := !rightB x || hangB x
/-- What is wrong with row i. -/
def rowF (t : T_api_Norm) (i : Nat) : Int :=
  if (!rightB (t.f_Rows.getD i d_api_Row).f_From || hangB (t.f_Rows.getD i d_api_Row).f_From) = true then 4
  else if 0 < i ∧ (t.f_Rows.getD i d_api_Row).f_From ≤ (t.f_Rows.getD (i - 1) d_api_Row).f_From then 6
  else if (t.f_Rows.getD i d_api_Row).f_To.length ≠ 1 ∧ (t.f_Rows.getD i d_api_Row).f_To.length ≠ 2 ∨ (t.f_Rows.getD i d_api_Row).f_To.getD 0 0 ≥ (t.f_Rows.getD i d_api_Row).f_From then 5
  else if (t.f_Rows.getD i d_api_Row).f_To.any badTo = true then 5
  else if (t.f_Rows.getD i d_api_Row).f_To.length = 2 ∧ 0 ≤ rowIdx t ((t.f_Rows.getD i d_api_Row).f_To.getD 1 0) then 9
  else if deepF t 8 i = true then 9 else 0
theorem any_scan {α : Type} (l : List α) (d : α) (p : α → Bool) (v : Int) : (match firstSome (fun k => if p (l.getD k d) = true then some v else none) l.length 0 with | none => false | some _ => true) = l.any p := by
  cases hf : firstSome (fun k => if p (l.getD k d) = true then some v else none) l.length 0 with
  | none =>
    have h := firstSome_none.1 hf
    refine Eq.symm (List.any_eq_false.2 fun x hx => ?_)
    obtain ⟨i, hi, rfl⟩ := List.getElem_of_mem hx
    have := h i (Nat.zero_le _) (by omega)
    have e : l.getD i d = l[i] := by simp [List.getD_eq_getElem?_getD, hi]
    simp only [e] at this
    split at this
    · cases this
    · assumption
  | some w =>
    obtain ⟨j, _, hj, h, _⟩ := firstSome_some hf
    refine Eq.symm (List.any_eq_true.2 ⟨l.getD j d, getD_mem (by omega), ?_⟩)
    split at h
    · assumption
    · cases h
theorem to_loop (t : T_api_Norm) (i : Nat) (hto : (t.f_Rows.getD i d_api_Row).f_To.length ≤ 4) : iter (m_eponymref04_row_L24 t (i : Int)) 0 = some (if (t.f_Rows.getD i d_api_Row).f_To.any badTo = true then .inr 5 else .inl ()) := by
  have h := iter_scan (body := m_eponymref04_row_L24 t (i : Int)) (t.f_Rows.getD i d_api_Row).f_To.length (fun k => if badTo ((t.f_Rows.getD i d_api_Row).f_To.getD k 0) = true then some (5 : Int) else none) (fun k hk _ => ?_) (fun _ => ?_)
  · rw [h, ← any_scan (t.f_Rows.getD i d_api_Row).f_To 0 badTo 5]
    cases hf : firstSome (fun k => if badTo ((t.f_Rows.getD i d_api_Row).f_To.getD k 0) = true then some (5 : Int) else none) (t.f_Rows.getD i d_api_Row).f_To.length 0 with
    | none => rfl
    | some w =>
      obtain ⟨j, _, hj, h, _⟩ := firstSome_some hf
      split at h
      · cases h; rfl
      · cases h
  · unfold m_eponymref04_row_L24
    simp only [Int.toNat_natCast]
    rw [decide_eq_true (by omega), cond_true, if_pos ⟨by omega, by omega⟩, right_eq, hang_eq]
    simp only [bind_some', badTo, m_eponymref04_row_K27, up (show k < 9223372036854775807 by omega)]
    rcases Bool.eq_false_or_eq_true (rightB ((t.f_Rows.getD i d_api_Row).f_To.getD k 0)) with h1 | h1
    · rcases Bool.eq_false_or_eq_true (hangB ((t.f_Rows.getD i d_api_Row).f_To.getD k 0)) with h2 | h2
      · simp only [h1, h2, Bool.not_true, cond_false, Bool.false_or, if_true]
        rw [if_pos ⟨by omega, by omega⟩]; rfl
      · simp only [h1, h2, Bool.not_true, cond_false, Bool.false_or, Bool.false_eq_true, if_false]
        rw [if_pos ⟨by omega, by omega⟩]; rfl
    · simp only [h1, Bool.not_false, cond_true, Bool.true_or, if_true]; rfl
  · unfold m_eponymref04_row_L24
    simp only [Int.toNat_natCast]
    rw [decide_eq_false (by omega)]; rfl
theorem row_eq (t : T_api_Norm) (i : Nat) (hn : t.f_Rows.length ≤ 2000) (hi : i < t.f_Rows.length) (hs : (t.f_Rows.getD i d_api_Row).f_To.length ≤ 4) (hto : ∀ j, j < i → 0 < (t.f_Rows.getD j d_api_Row).f_To.length) : m_eponymref04_row t (i : Int) = some (rowF t i) := by
  unfold m_eponymref04_row
  rw [if_pos ⟨by omega, by omega⟩, right_eq, hang_eq]
  simp only [bind_some', Int.toNat_natCast]
  have e1 : (bif !rightB (t.f_Rows.getD i d_api_Row).f_From then some true else some (hangB (t.f_Rows.getD i d_api_Row).f_From)) = some (!rightB (t.f_Rows.getD i d_api_Row).f_From || hangB (t.f_Rows.getD i d_api_Row).f_From) := by
    cases rightB (t.f_Rows.getD i d_api_Row).f_From <;> rfl
  rw [e1, bind_some']
  unfold rowF m_eponymref04_row_K2
  cases hb : (!rightB (t.f_Rows.getD i d_api_Row).f_From || hangB (t.f_Rows.getD i d_api_Row).f_From) with
  | true => rfl
  | false =>
  simp only [cond_false, Bool.false_eq_true, if_false]
  have e2 : (bif decide ((i : Int) > 0) then
        if 0 ≤ IntKind.wrap .i64 ((i : Int) - 1) ∧ IntKind.wrap .i64 ((i : Int) - 1) < (t.f_Rows.length : Int) then
          some (decide ((t.f_Rows.getD i d_api_Row).f_From ≤ (t.f_Rows.getD (IntKind.wrap .i64 ((i : Int) - 1)).toNat d_api_Row).f_From))
        else none
      else some false) = some (decide (0 < i ∧ (t.f_Rows.getD i d_api_Row).f_From ≤ (t.f_Rows.getD (i - 1) d_api_Row).f_From)) := by
    by_cases h0 : 0 < i
    · rw [decide_eq_true (show (i : Int) > 0 by omega), cond_true, down h0 (by omega), if_pos ⟨by omega, by omega⟩]
      simp only [Int.toNat_natCast, h0, true_and]
    · rw [decide_eq_false (show ¬ (i : Int) > 0 by omega), cond_false]
      simp only [h0, false_and, decide_false]
  simp only [Int.toNat_natCast]
  rw [e2, bind_some']
  unfold m_eponymref04_row_K4
  by_cases h2 : 0 < i ∧ (t.f_Rows.getD i d_api_Row).f_From ≤ (t.f_Rows.getD (i - 1) d_api_Row).f_From
  · rw [decide_eq_true h2, if_pos h2]; rfl
  rw [decide_eq_false h2, if_neg h2, cond_false]
  simp only [Int.toNat_natCast]
  by_cases h3 : (t.f_Rows.getD i d_api_Row).f_To.length = 1 ∨ (t.f_Rows.getD i d_api_Row).f_To.length = 2
  · have e3 : (bif (((t.f_Rows.getD i d_api_Row).f_To.length : Int) != 1) then
          bif (((t.f_Rows.getD i d_api_Row).f_To.length : Int) != 2) then some true
          else if 0 ≤ (0 : Int) ∧ (0 : Int) < ((t.f_Rows.getD i d_api_Row).f_To.length : Int) then some (decide ((t.f_Rows.getD i d_api_Row).f_To.getD 0 0 ≥ (t.f_Rows.getD i d_api_Row).f_From)) else none
        else if 0 ≤ (0 : Int) ∧ (0 : Int) < ((t.f_Rows.getD i d_api_Row).f_To.length : Int) then some (decide ((t.f_Rows.getD i d_api_Row).f_To.getD 0 0 ≥ (t.f_Rows.getD i d_api_Row).f_From)) else none) = some (decide ((t.f_Rows.getD i d_api_Row).f_To.getD 0 0 ≥ (t.f_Rows.getD i d_api_Row).f_From)) := by
      rw [if_pos ⟨by omega, by omega⟩]
      rcases h3 with h3 | h3 <;> rw [h3] <;> rfl
    rw [e3, bind_some']
    by_cases h4 : (t.f_Rows.getD i d_api_Row).f_To.getD 0 0 ≥ (t.f_Rows.getD i d_api_Row).f_From
    · rw [decide_eq_true h4, if_pos (.inr h4)]; rfl
    rw [decide_eq_false h4, if_neg (by omega)]
    unfold m_eponymref04_row_K6
    rw [cond_false, to_loop t i hs]
    cases ha : (t.f_Rows.getD i d_api_Row).f_To.any badTo with
    | true => rfl
    | false =>
    simp only [Bool.false_eq_true, if_false, bind_some']
    unfold m_eponymref04_row_K8
    simp only [Int.toNat_natCast]
    have hd := deep_loop t hn i hi (fun j hj => by
      by_cases e : j = i
      · subst e; omega
      · exact hto j (by omega)) 8 0 (i : Int) (by omega) (by omega)
    have hd : iter (m_eponymref04_row_L15 t) (0, (i : Int)) = some (if deepF t 8 (i : Int) = true then .inr 9 else .inl ()) := hd
    rcases h3 with h3 | h3
    · rw [h3, if_neg (by omega)]
      have e5 : ((((1 : Nat) : Int)) == 2) = false := by decide
      rw [e5, cond_false, bind_some']
      unfold m_eponymref04_row_K10
      rw [cond_false, hd]
      cases deepF t 8 (i : Int) <;> rfl
    · rw [h3]
      have e5 : ((((2 : Nat) : Int)) == 2) = true := by decide
      rw [e5, cond_true, if_pos ⟨by omega, by omega⟩, rowIdx_eq t _ hn]
      simp only [bind_some']
      unfold m_eponymref04_row_K10
      by_cases h6 : 0 ≤ rowIdx t ((t.f_Rows.getD i d_api_Row).f_To.getD 1 0)
      · rw [decide_eq_true (show rowIdx t ((t.f_Rows.getD i d_api_Row).f_To.getD 1 0) ≥ 0 from h6), if_pos ⟨trivial, h6⟩]; rfl
      · rw [decide_eq_false (show ¬ rowIdx t ((t.f_Rows.getD i d_api_Row).f_To.getD 1 0) ≥ 0 from h6), if_neg (fun h => h6 h.2), cond_false, hd]
        cases deepF t 8 (i : Int) <;> rfl
  · have e3 : (bif (((t.f_Rows.getD i d_api_Row).f_To.length : Int) != 1) then
          bif (((t.f_Rows.getD i d_api_Row).f_To.length : Int) != 2) then some true
          else if 0 ≤ (0 : Int) ∧ (0 : Int) < ((t.f_Rows.getD i d_api_Row).f_To.length : Int) then some (decide ((t.f_Rows.getD i d_api_Row).f_To.getD 0 0 ≥ (t.f_Rows.getD i d_api_Row).f_From)) else none
        else if 0 ≤ (0 : Int) ∧ (0 : Int) < ((t.f_Rows.getD i d_api_Row).f_To.length : Int) then some (decide ((t.f_Rows.getD i d_api_Row).f_To.getD 0 0 ≥ (t.f_Rows.getD i d_api_Row).f_From)) else none) = some true := by
      rw [show (((t.f_Rows.getD i d_api_Row).f_To.length : Int) != 1) = true by rw [bne_iff_ne]; omega, show (((t.f_Rows.getD i d_api_Row).f_To.length : Int) != 2) = true by rw [bne_iff_ne]; omega]
      rfl
    rw [e3, if_pos (.inl ⟨by omega, by omega⟩)]
    rfl
theorem row_to {t : T_api_Norm} {i : Nat} (h : rowF t i = 0) : ((t.f_Rows.getD i d_api_Row).f_To.length = 1 ∨ (t.f_Rows.getD i d_api_Row).f_To.length = 2) ∧ (t.f_Rows.getD i d_api_Row).f_To.getD 0 0 < (t.f_Rows.getD i d_api_Row).f_From := by
  unfold rowF at h
  split at h
  · cases h
  · split at h
    · cases h
    · split at h
      · cases h
      · omega
/-- Is there a rune of Hangul from a on to b? -/
def hangIn (a b : Int) : Bool := decide (a ≤ b) && ((decide (a ≤ 55203) && decide (b ≥ 44032)) || ((decide (a ≤ 4370) && decide (b ≥ 4352)) || ((decide (a ≤ 4469) && decide (b ≥ 4449)) || (decide (a ≤ 4546) && decide (b ≥ 4520)))))
theorem hangIn_step (a b : Int) (h : a ≤ b) : hangIn a b = (hangB a || hangIn (a + 1) b) := by
  rw [Bool.eq_iff_iff]
  simp only [hangIn, hangB, Bool.and_eq_true, Bool.or_eq_true, decide_eq_true_eq]
  omega
def clsF (t : T_api_Norm) (i : Nat) : Option (Int × Int) :=
  if (t.f_Classes.getD i d_api_Range).f_Value < 1 ∨ (t.f_Classes.getD i d_api_Range).f_Value > 254 ∨ hangIn (t.f_Classes.getD i d_api_Range).f_Lo (t.f_Classes.getD i d_api_Range).f_Hi = true then some (i, 17) else none
theorem cls_loop (t : T_api_Norm) (i : Nat) (hi : i < t.f_Classes.length) (hh : (t.f_Classes.getD i d_api_Range).f_Hi ≤ 1114111) : ∀ (k : Nat) (r : Int), 0 ≤ r → (t.f_Classes.getD i d_api_Range).f_Hi + 1 - r ≤ k → iter (m_eponymref04_Check_L52 t (i : Int)) r = some (if hangIn r (t.f_Classes.getD i d_api_Range).f_Hi = true then .inr ((i : Int), 17) else .inl ())
  | 0, r, h0, h => by
    have e : hangIn r (t.f_Classes.getD i d_api_Range).f_Hi = false := by simp only [hangIn]; rw [decide_eq_false (by omega)]; rfl
    rw [e]
    refine iter_done ?_
    unfold m_eponymref04_Check_L52
    rw [if_pos ⟨by omega, by omega⟩, Int.toNat_natCast, decide_eq_false (by omega)]
    rfl
  | k + 1, r, h0, h => by
    by_cases hr : r ≤ (t.f_Classes.getD i d_api_Range).f_Hi
    · have ih := cls_loop t i hi hh k (r + 1) (by omega) (by omega)
      have hb : m_eponymref04_Check_L52 t (i : Int) r = if hangB r = true then some (.done (.inr ((i : Int), 17))) else some (.next (r + 1)) := by
        unfold m_eponymref04_Check_L52
        rw [if_pos ⟨by omega, by omega⟩, Int.toNat_natCast, decide_eq_true (by omega), hang_eq, w32 (by omega) (by omega)]
        simp only [bind_some', cond_true]
        cases hangB r <;> rfl
      rw [hangIn_step _ _ hr]
      cases hg : hangB r with
      | true => rw [hg] at hb; exact iter_done hb
      | false => rw [hg] at hb; rw [iter_next hb, ih]; rfl
    · have e : hangIn r (t.f_Classes.getD i d_api_Range).f_Hi = false := by simp only [hangIn]; rw [decide_eq_false (by omega)]; rfl
      rw [e]
      refine iter_done ?_
      unfold m_eponymref04_Check_L52
      rw [if_pos ⟨by omega, by omega⟩, Int.toNat_natCast, decide_eq_false (by omega)]
      rfl
def exF (t : T_api_Norm) (i : Nat) : Option (Int × Int) :=
  if rightB (t.f_Excluded.getD i 0) = false then some (i, 4) else if 0 < i ∧ t.f_Excluded.getD i 0 ≤ t.f_Excluded.getD (i - 1) 0 then some (i, 6) else none
def exclB (t : T_api_Norm) (r : Int) : Bool := t.f_Excluded.any fun x => x == r
theorem excl_eq (t : T_api_Norm) (r : Int) (hn : t.f_Excluded.length ≤ 2000) : m_eponymref04_excluded t r = some (exclB t r) := by
  unfold m_eponymref04_excluded
  rw [iter_scan t.f_Excluded.length (fun i => if (t.f_Excluded.getD i 0 == r) = true then some true else none) (fun i hi _ => ?_) (fun _ => ?_)]
  · have := any_scan' t.f_Excluded 0 (fun x => x == r)
    unfold exclB
    rw [← this]
    cases firstSome (fun i => if (t.f_Excluded.getD i 0 == r) = true then some true else none) t.f_Excluded.length 0 with
    | none => rfl
    | some v => cases v <;> rfl
  · unfold m_eponymref04_excluded_L5
    rw [decide_eq_true (by omega), cond_true, if_pos ⟨by omega, by omega⟩, Int.toNat_natCast]
    cases h : (t.f_Excluded.getD i 0 == r) with
    | true => rfl
    | false => rw [cond_false, up (by omega)]; rfl
  · unfold m_eponymref04_excluded_L5
    rw [decide_eq_false (by omega)]; rfl
def clsR (t : T_api_Norm) (r : Int) : Int := (fnd t.f_Classes r).1
theorem class_eq (t : T_api_Norm) (r : Int) (hn : t.f_Classes.length ≤ 2000) : m_eponymref04_Class t r = some (clsR t r) := by
  unfold m_eponymref04_Class clsR
  rw [find_eq _ _ (by omega)]; rfl
/-- Does row i compose? -/
def compB (t : T_api_Norm) (i : Nat) : Bool := decide ((t.f_Rows.getD i d_api_Row).f_To.length = 2) && !exclB t (t.f_Rows.getD i d_api_Row).f_From && clsR t (t.f_Rows.getD i d_api_Row).f_From == 0 && clsR t ((t.f_Rows.getD i d_api_Row).f_To.getD 0 0) == 0
theorem comp_eq (t : T_api_Norm) (i : Nat) (hi : i < t.f_Rows.length) (hn : t.f_Rows.length ≤ 2000) (he : t.f_Excluded.length ≤ 2000) (hc : t.f_Classes.length ≤ 2000) : m_eponymref04_Composes t (i : Int) = some (compB t i) := by
  unfold m_eponymref04_Composes compB
  rw [decide_eq_false (by omega), cond_false, decide_eq_false (by omega), cond_false, if_pos ⟨by omega, by omega⟩, bind_some']
  unfold m_eponymref04_Composes_K2
  simp only [Int.toNat_natCast]
  by_cases h2 : (t.f_Rows.getD i d_api_Row).f_To.length = 2
  · rw [h2, show ((((2 : Nat) : Int)) != 2) = false by decide, cond_false, if_pos ⟨by omega, by omega⟩, excl_eq t _ he]
    simp only [bind_some', class_eq t _ hc]
    rcases Bool.eq_false_or_eq_true (exclB t (t.f_Rows.getD i d_api_Row).f_From) with h3 | h3
    · simp only [h3, Bool.not_true, cond_false, decide_true, Bool.and_false, Bool.false_and]
    · rcases Bool.eq_false_or_eq_true (clsR t (t.f_Rows.getD i d_api_Row).f_From == 0) with h4 | h4
      · simp only [h3, h4, Bool.not_false, cond_true, bind_some', class_eq t _ hc, decide_true, Bool.true_and]
        rw [if_pos ⟨by omega, by omega⟩, if_pos ⟨by omega, by omega⟩, if_pos ⟨by omega, by omega⟩]
      · simp only [h3, h4, Bool.not_false, cond_true, cond_false, bind_some', class_eq t _ hc, decide_true, Bool.true_and, Bool.false_and]
        rw [if_pos ⟨by omega, by omega⟩]
  · rw [show (((t.f_Rows.getD i d_api_Row).f_To.length : Int) != 2) = true by rw [bne_iff_ne]; omega, decide_eq_false h2]
    rfl
theorem comp_two {t : T_api_Norm} {i : Nat} (h : compB t i = true) : (t.f_Rows.getD i d_api_Row).f_To.length = 2 := by
  simp only [compB, Bool.and_eq_true, decide_eq_true_eq] at h
  exact h.1.1.1
/-- Do rows i and k compose of the same? -/
def twB (t : T_api_Norm) (i k : Nat) : Bool := compB t i && (compB t k && ((t.f_Rows.getD i d_api_Row).f_To.getD 0 0 == (t.f_Rows.getD k d_api_Row).f_To.getD 0 0 && (t.f_Rows.getD i d_api_Row).f_To.getD 1 0 == (t.f_Rows.getD k d_api_Row).f_To.getD 1 0))
def twF (t : T_api_Norm) (i : Nat) : Option (Int × Int) := firstSome (fun k => if twB t i k = true then some ((i : Int), (7 : Int)) else none) i 0
theorem tw_loop (t : T_api_Norm) (i : Nat) (hi : i < t.f_Rows.length) (hn : t.f_Rows.length ≤ 2000) (he : t.f_Excluded.length ≤ 2000) (hc : t.f_Classes.length ≤ 2000) : iter (m_eponymref04_Check_L20 t (i : Int)) 0 = some (scanX (twF t i)) := by
  refine iter_scan i (fun k => if twB t i k = true then some ((i : Int), (7 : Int)) else none) (fun k hk _ => ?_) (fun _ => ?_)
  · unfold m_eponymref04_Check_L20
    rw [decide_eq_true (by omega), cond_true, comp_eq t i hi hn he hc, comp_eq t k (by omega) hn he hc]
    simp only [bind_some', Int.toNat_natCast]
    have key : (bif compB t i then
          bif compB t k then
            if 0 ≤ (i : Int) ∧ (i : Int) < (t.f_Rows.length : Int) then
              if 0 ≤ (0 : Int) ∧ (0 : Int) < ((t.f_Rows.getD i d_api_Row).f_To.length : Int) then
                if 0 ≤ (k : Int) ∧ (k : Int) < (t.f_Rows.length : Int) then
                  if 0 ≤ (0 : Int) ∧ (0 : Int) < ((t.f_Rows.getD k d_api_Row).f_To.length : Int) then
                    bif ((t.f_Rows.getD i d_api_Row).f_To.getD 0 0 == (t.f_Rows.getD k d_api_Row).f_To.getD 0 0) then
                      if 0 ≤ (i : Int) ∧ (i : Int) < (t.f_Rows.length : Int) then
                        if 0 ≤ (1 : Int) ∧ (1 : Int) < ((t.f_Rows.getD i d_api_Row).f_To.length : Int) then
                          if 0 ≤ (k : Int) ∧ (k : Int) < (t.f_Rows.length : Int) then
                            if 0 ≤ (1 : Int) ∧ (1 : Int) < ((t.f_Rows.getD k d_api_Row).f_To.length : Int) then
                              some ((t.f_Rows.getD i d_api_Row).f_To.getD 1 0 == (t.f_Rows.getD k d_api_Row).f_To.getD 1 0)
                            else none
                          else none
                        else none
                      else none
                    else some false
                  else none
                else none
              else none
            else none
          else some false
        else some false) = some (twB t i k) := by
      rcases Bool.eq_false_or_eq_true (compB t i) with h1 | h1
      · rcases Bool.eq_false_or_eq_true (compB t k) with h2 | h2
        · have l1 := comp_two h1
          have l2 := comp_two h2
          have q1 : 0 ≤ (i : Int) ∧ (i : Int) < (t.f_Rows.length : Int) := by omega
          have q2 : 0 ≤ (k : Int) ∧ (k : Int) < (t.f_Rows.length : Int) := by omega
          have q3 : 0 ≤ (0 : Int) ∧ (0 : Int) < ((t.f_Rows.getD i d_api_Row).f_To.length : Int) := by omega
          have q4 : 0 ≤ (0 : Int) ∧ (0 : Int) < ((t.f_Rows.getD k d_api_Row).f_To.length : Int) := by omega
          have q5 : 0 ≤ (1 : Int) ∧ (1 : Int) < ((t.f_Rows.getD i d_api_Row).f_To.length : Int) := by omega
          have q6 : 0 ≤ (1 : Int) ∧ (1 : Int) < ((t.f_Rows.getD k d_api_Row).f_To.length : Int) := by omega
          rw [if_pos q1, if_pos q3, if_pos q2, if_pos q4, if_pos q1, if_pos q5, if_pos q2, if_pos q6]
          rcases Bool.eq_false_or_eq_true ((t.f_Rows.getD i d_api_Row).f_To.getD 0 0 == (t.f_Rows.getD k d_api_Row).f_To.getD 0 0) with h3 | h3 <;> simp only [twB, h1, h2, h3, cond_true, cond_false, Bool.true_and, Bool.false_and]
        · simp only [twB, h1, h2, cond_true, cond_false, Bool.true_and, Bool.false_and]
      · simp only [twB, h1, cond_false, Bool.false_and]
    rw [key]
    simp only [bind_some', m_eponymref04_Check_K23, up (show k < 9223372036854775807 by omega)]
    cases twB t i k <;> rfl
  · unfold m_eponymref04_Check_L20
    rw [decide_eq_false (by omega)]; rfl
def chk04 (t : T_api_Norm) : Int × Int :=
  if 2000 < t.f_Rows.length ∨ 2000 < t.f_Excluded.length then (0, 18)
  else match firstSome (fun i => if rowF t i ≠ 0 then some ((i : Int), rowF t i) else none) t.f_Rows.length 0 with
    | some v => v
    | none =>
      if (chkR t.f_Classes).2 ≠ 0 then chkR t.f_Classes
      else match firstSome (clsF t) t.f_Classes.length 0 with
        | some v => v
        | none => match firstSome (exF t) t.f_Excluded.length 0 with
          | some v => v
          | none => (firstSome (twF t) t.f_Rows.length 0).getD (0, 0)
theorem check04_eq (t : T_api_Norm) (hs : ∀ x ∈ t.f_Rows, x.f_To.length ≤ 4) : m_eponymref04_Check t = some (chk04 t) := by
  unfold m_eponymref04_Check chk04
  by_cases h1 : 2000 < t.f_Rows.length
  · rw [decide_eq_true (by omega), if_pos (.inl h1)]; rfl
  by_cases h2 : 2000 < t.f_Excluded.length
  · rw [decide_eq_false (by omega), decide_eq_true (by omega), if_pos (.inr h2)]; rfl
  rw [decide_eq_false (by omega), decide_eq_false (by omega), if_neg (by omega)]
  simp only [cond_false, bind_some']
  unfold m_eponymref04_Check_K2
  rw [cond_false, iter_scan t.f_Rows.length (fun i => if rowF t i ≠ 0 then some ((i : Int), rowF t i) else none) (fun i hi hp => ?_) (fun _ => ?_)]
  · cases hf : firstSome (fun i => if rowF t i ≠ 0 then some ((i : Int), rowF t i) else none) t.f_Rows.length 0 with
    | some v => rfl
    | none =>
      simp only [bind_some', scanX]
      unfold m_eponymref04_Check_K4
      rw [check03_eq, bind_some']
      by_cases h3 : (chkR t.f_Classes).2 = 0
      · rw [show ((chkR t.f_Classes).2 != 0) = false by rw [h3]; rfl, cond_false, if_neg (fun h => h h3)]
        obtain ⟨c1, c2, c3⟩ := chk_right h3
        rw [iter_scan t.f_Classes.length (clsF t) (fun i hi _ => ?_) (fun _ => ?_)]
        · cases hf2 : firstSome (clsF t) t.f_Classes.length 0 with
          | some v => rfl
          | none =>
            simp only [bind_some', scanX]
            unfold m_eponymref04_Check_K7
            rw [iter_scan t.f_Excluded.length (exF t) (fun i hi _ => ?_) (fun _ => ?_)]
            · cases hf3 : firstSome (exF t) t.f_Excluded.length 0 with
              | some v => rfl
              | none =>
                simp only [bind_some', scanX]
                unfold m_eponymref04_Check_K9
                rw [iter_scan t.f_Rows.length (twF t) (fun i hi _ => ?_) (fun _ => ?_)]
                · cases firstSome (twF t) t.f_Rows.length 0 <;> rfl
                · unfold m_eponymref04_Check_L14
                  rw [decide_eq_true (by omega), cond_true, tw_loop t i hi (by omega) (by omega) c1]
                  cases twF t i with
                  | none => simp only [bind_some', scanX, up (show i < 9223372036854775807 by omega)]
                  | some v => rfl
                · unfold m_eponymref04_Check_L14
                  rw [decide_eq_false (by omega)]; rfl
            · unfold m_eponymref04_Check_L34 exF
              rw [decide_eq_true (by omega), cond_true, if_pos ⟨by omega, by omega⟩, Int.toNat_natCast, right_eq, bind_some']
              rcases Bool.eq_false_or_eq_true (rightB (t.f_Excluded.getD i 0)) with h4 | h4
              · simp only [h4, Bool.not_true, cond_false, Bool.true_eq_false, if_false]
                by_cases h0 : 0 < i
                · rw [decide_eq_true (show (i : Int) > 0 by omega), cond_true, if_pos ⟨by omega, by omega⟩, down h0 (by omega), if_pos ⟨by omega, by omega⟩, bind_some', Int.toNat_natCast]
                  by_cases h5 : t.f_Excluded.getD i 0 ≤ t.f_Excluded.getD (i - 1) 0
                  · rw [if_pos ⟨h0, h5⟩, decide_eq_true h5]; rfl
                  · rw [if_neg (fun h => h5 h.2), decide_eq_false h5]
                    simp only [m_eponymref04_Check_K38, cond_false, up (show i < 9223372036854775807 by omega)]
                · rw [decide_eq_false (show ¬ (i : Int) > 0 by omega), cond_false, bind_some', if_neg (fun h => h0 h.1)]
                  simp only [m_eponymref04_Check_K38, cond_false, up (show i < 9223372036854775807 by omega)]
              · simp only [h4, Bool.not_false, cond_true, if_true]
            · unfold m_eponymref04_Check_L34
              rw [decide_eq_false (by omega)]; rfl
        · have hm := c3 _ (getD_mem (d := d_api_Range) hi)
          simp only [mayB, Bool.and_eq_true, decide_eq_true_eq] at hm
          unfold m_eponymref04_Check_L44 clsF
          rw [decide_eq_true (by omega), cond_true, if_pos ⟨by omega, by omega⟩, if_pos ⟨by omega, by omega⟩, Int.toNat_natCast]
          have e : (bif decide ((t.f_Classes.getD i d_api_Range).f_Value < 1) then some true else some (decide ((t.f_Classes.getD i d_api_Range).f_Value > 254))) = some (decide ((t.f_Classes.getD i d_api_Range).f_Value < 1) || decide ((t.f_Classes.getD i d_api_Range).f_Value > 254)) := by
            cases decide ((t.f_Classes.getD i d_api_Range).f_Value < 1) <;> rfl
          rw [e, bind_some']
          unfold m_eponymref04_Check_K49
          rw [if_pos ⟨by omega, by omega⟩, Int.toNat_natCast, cls_loop t i hi (by omega) 1114112 _ (by omega) (by omega)]
          by_cases g1 : (t.f_Classes.getD i d_api_Range).f_Value < 1
          · simp only [g1, true_or, if_true, decide_true, Bool.true_or, cond_true]; rfl
          by_cases g2 : (t.f_Classes.getD i d_api_Range).f_Value > 254
          · simp only [g1, g2, true_or, false_or, or_true, if_true, decide_true, decide_false, Bool.or_true, Bool.false_or, cond_true]; rfl
          rw [decide_eq_false g1, decide_eq_false g2]
          simp only [g1, g2, false_or, Bool.or_false, cond_false]
          cases hangIn (t.f_Classes.getD i d_api_Range).f_Lo (t.f_Classes.getD i d_api_Range).f_Hi with
          | true => rfl
          | false => simp only [Bool.false_eq_true, if_false, bind_some', up (show i < 9223372036854775807 by omega)]
        · unfold m_eponymref04_Check_L44
          rw [decide_eq_false (by omega)]; rfl
      · rw [show ((chkR t.f_Classes).2 != 0) = true from bne_iff_ne.2 h3, if_pos h3]; rfl
  · have hto : ∀ j, j < i → 0 < (t.f_Rows.getD j d_api_Row).f_To.length := fun j hj => by
      have := hp j hj
      split at this
      · cases this
      · rename_i h0
        have := row_to (Decidable.not_not.1 h0)
        omega
    unfold m_eponymref04_Check_L63
    rw [decide_eq_true (by omega), cond_true, row_eq t i (by omega) hi (hs _ (getD_mem hi)) hto, bind_some']
    by_cases h0 : rowF t i = 0
    · rw [show (rowF t i != 0) = false by rw [h0]; rfl, cond_false, up (by omega), if_neg (fun h => h h0)]
    · rw [show (rowF t i != 0) = true from bne_iff_ne.2 h0, if_pos h0]; rfl
  · unfold m_eponymref04_Check_L63
    rw [decide_eq_false (by omega)]; rfl
/-- A right norm. -/
structure Right04 (t : T_api_Norm) : Prop where
  rows : t.f_Rows.length ≤ 2000
  exc : t.f_Excluded.length ≤ 2000
  row : ∀ i, i < t.f_Rows.length → rowF t i = 0
  cls : (chkR t.f_Classes).2 = 0
  clsV : ∀ i, i < t.f_Classes.length → clsF t i = none
  exV : ∀ i, i < t.f_Excluded.length → exF t i = none
  two : ∀ i, i < t.f_Rows.length → twF t i = none
theorem chk04_right {t : T_api_Norm} (h : (chk04 t).2 = 0) : Right04 t := by
  unfold chk04 at h
  split at h
  · cases h
  · rename_i h0
    split at h
    · rename_i v hv
      obtain ⟨j, _, _, hj, _⟩ := firstSome_some hv
      split at hj
      · rename_i hne; cases hj; exact absurd h hne
      · cases hj
    · rename_i hrow
      split at h
      · rename_i hne; exact absurd h hne
      · rename_i hcls
        split at h
        · rename_i v hv
          obtain ⟨j, _, _, hj, _⟩ := firstSome_some hv
          unfold clsF at hj
          split at hj
          · cases hj; cases h
          · cases hj
        · rename_i hc
          split at h
          · rename_i v hv
            obtain ⟨j, _, _, hj, _⟩ := firstSome_some hv
            unfold exF at hj
            split at hj
            · cases hj; cases h
            · split at hj
              · cases hj; cases h
              · cases hj
          · rename_i hx
            have htw : firstSome (twF t) t.f_Rows.length 0 = none := by
              cases hv : firstSome (twF t) t.f_Rows.length 0 with
              | none => rfl
              | some v =>
                obtain ⟨j, _, _, hj, _⟩ := firstSome_some hv
                unfold twF at hj
                obtain ⟨k, _, _, hk, _⟩ := firstSome_some hj
                rw [hv] at h
                split at hk
                · cases hk; cases h
                · cases hk
            refine ⟨by omega, by omega, fun i hi => ?_, Decidable.not_not.1 hcls, fun i hi => firstSome_none.1 hc i (Nat.zero_le _) (by omega), fun i hi => firstSome_none.1 hx i (Nat.zero_le _) (by omega), fun i hi => firstSome_none.1 htw i (Nat.zero_le _) (by omega)⟩
            have := firstSome_none.1 hrow i (Nat.zero_le _) (by omega)
            split at this
            · cases this
            · rename_i h1; exact Decidable.not_not.1 h1
end Go.Proofs.YtkeokkmhhhhoiaaGreatDoor
