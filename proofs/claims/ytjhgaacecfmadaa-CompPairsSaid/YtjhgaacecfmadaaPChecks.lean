/- Merged of texts of ours: P0, PRanges, PChecks. No condition. -/
import Derived.Test.YtjhgaacecfmadaaM
namespace Go.Proofs.Ytjhgaacecfmadaa
open Go Go.SE
set_option linter.unusedVariables false
set_option linter.unusedSimpArgs false
theorem iter_none {S X : Type} {body : S → Option (Stp S X)} {s : S} (h : body s = none) : iter body s = none := by
  cases hi : iter body s with
  | none => rfl
  | some x =>
    obtain ⟨k, hk⟩ := iter_out hi
    cases k with
    | zero => cases hk
    | succ k => rw [iterN, h] at hk; cases hk
theorem iter_step {S X : Type} {body : S → Option (Stp S X)} {s : S} : iter body s = match body s with | some (.next s') => iter body s' | some (.done x) => some x | none => none := by
  cases hb : body s with
  | none => exact iter_none hb
  | some st =>
    cases st with
    | next s' => exact iter_next hb
    | done x => exact iter_done hb
theorem w64 {x : Int} (h : -9223372036854775808 ≤ x) (h' : x ≤ 9223372036854775807) : IntKind.wrap .i64 x = x := by
  have e1 : (IntKind.i64).bits = 64 := rfl
  have e2 : (IntKind.i64).signed = true := rfl
  simp only [IntKind.wrap, e1, e2, Bool.true_and, decide_eq_true_eq]
  split <;> omega
theorem wu64 {x : Int} (h : 0 ≤ x) (h' : x ≤ 18446744073709551615) : IntKind.wrap .u64 x = x := by
  have e1 : (IntKind.u64).bits = 64 := rfl
  have e2 : (IntKind.u64).signed = false := rfl
  simp only [IntKind.wrap, e1, e2, Bool.false_and]
  simp
  omega
theorem w32 {x : Int} (h : -2147483648 ≤ x) (h' : x ≤ 2147483647) : IntKind.wrap .i32 x = x := by
  have e1 : (IntKind.i32).bits = 32 := rfl
  have e2 : (IntKind.i32).signed = true := rfl
  simp only [IntKind.wrap, e1, e2, Bool.true_and, decide_eq_true_eq]
  split <;> omega
/-- One more. -/
theorem up {i : Nat} (h : i < 9223372036854775807) : IntKind.wrap .i64 ((i : Int) + 1) = ((i + 1 : Nat) : Int) := by
  rw [w64 (by omega) (by omega)]; omega
theorem down {i : Nat} (h : 0 < i) (h2 : i ≤ 9223372036854775807) : IntKind.wrap .i64 ((i : Int) - 1) = ((i - 1 : Nat) : Int) := by
  rw [w64 (by omega) (by omega)]; omega
theorem mid {i j : Nat} (h : i + j < 9223372036854775808) : IntKind.wrap .i64 (Int.fdiv (IntKind.wrap .u64 (IntKind.wrap .i64 ((i : Int) + (j : Int)))) 2) = (((i + j) / 2 : Nat) : Int) := by
  rw [w64 (x := (i : Int) + j) (by omega) (by omega), wu64 (by omega) (by omega), Int.fdiv_eq_ediv_of_nonneg _ (by omega), w64 (by omega) (by omega)]
  omega
theorem drop_getD {α : Type} {l : List α} {d : α} {i : Nat} (h : i < l.length) : l.drop i = l.getD i d :: l.drop (i + 1) := by
  rw [List.drop_eq_getElem_cons h]
  simp [List.getD_eq_getElem?_getD, h]
theorem getD_mem {α : Type} {l : List α} {d : α} {i : Nat} (h : i < l.length) : l.getD i d ∈ l := by
  simp [List.getD_eq_getElem?_getD, h]
theorem getD_pair {α : Type} {R : α → α → Prop} {d : α} : ∀ {l : List α}, l.Pairwise R → ∀ {i j : Nat}, i < j → j < l.length → R (l.getD i d) (l.getD j d)
  | [], _, i, j, _, h => absurd h (Nat.not_lt_zero _)
  | x :: l, hp, 0, j + 1, _, h => (List.pairwise_cons.1 hp).1 _ (getD_mem (by simpa using h))
  | x :: l, hp, i + 1, j + 1, hij, h => getD_pair (List.pairwise_cons.1 hp).2 (by omega) (by simpa using h)
/-- A binary search's answer. -/
def isFirst (p : Nat → Prop) (n y : Nat) : Prop := y ≤ n ∧ (∀ k, k < y → ¬ p k) ∧ (y < n → p y)
/-! ### Loops over numbers -/
section
variable {S X A : Type}
def foldX (g : Nat → A → Sum A X) (e : A → X) : Nat → Nat → A → X
  | 0, _, a => e a
  | k + 1, i, a => match g i a with | .inl a' => foldX g e k (i + 1) a' | .inr x => x
theorem iter_fold {body : S → Option (Stp S X)} (st : Nat → A → S) (n : Nat) (g : Nat → A → Sum A X) (e : A → X) (I : Nat → A → Prop)
    (hstep : ∀ i a, i < n → I i a → body (st i a) = some (match g i a with | .inl a' => .next (st (i + 1) a') | .inr x => .done x) ∧ ∀ a', g i a = .inl a' → I (i + 1) a')
    (hend : ∀ a, I n a → body (st n a) = some (.done (e a))) : ∀ (k i : Nat) (a : A), i + k = n → I i a → iter body (st i a) = some (foldX g e k i a)
  | 0, i, a, h, hi => by
    have : i = n := by omega
    subst this
    rw [iter_done (hend a hi)]
    rfl
  | k + 1, i, a, h, hi => by
    obtain ⟨h1, h2⟩ := hstep i a (by omega) hi
    rw [foldX]
    cases hg : g i a with
    | inl a' =>
      rw [hg] at h1
      rw [iter_next h1]
      exact iter_fold st n g e I hstep hend k (i + 1) a' (by omega) (h2 a' hg)
    | inr x => rw [hg] at h1; rw [iter_done h1]
end
/-- The first answer of a row of questions. -/
def firstSome {V : Type} (f : Nat → Option V) : Nat → Nat → Option V
  | 0, _ => none
  | k + 1, i => match f i with | some v => some v | none => firstSome f k (i + 1)
theorem firstSome_none {V : Type} {f : Nat → Option V} : ∀ {k i : Nat}, firstSome f k i = none ↔ ∀ j, i ≤ j → j < i + k → f j = none
  | 0, i => ⟨fun _ j h1 h2 => by omega, fun _ => rfl⟩
  | k + 1, i => by
    rw [firstSome]
    cases hf : f i with
    | some v => exact ⟨fun h => (by cases h), fun h => by have := h i (Nat.le_refl _) (by omega); rw [hf] at this; cases this⟩
    | none =>
      show firstSome f k (i + 1) = none ↔ _
      rw [firstSome_none]
      refine ⟨fun h j h1 h2 => ?_, fun h j h1 h2 => h j (by omega) (by omega)⟩
      by_cases e : j = i
      · subst e; exact hf
      · exact h j (by omega) (by omega)
theorem firstSome_some {V : Type} {f : Nat → Option V} {v : V} : ∀ {k i : Nat}, firstSome f k i = some v → ∃ j, i ≤ j ∧ j < i + k ∧ f j = some v ∧ ∀ j', i ≤ j' → j' < j → f j' = none
  | 0, i, h => by cases h
  | k + 1, i, h => by
    rw [firstSome] at h
    cases hf : f i with
    | some w => rw [hf] at h; cases h; exact ⟨i, Nat.le_refl _, by omega, hf, fun j' h1 h2 => by omega⟩
    | none =>
      rw [hf] at h
      obtain ⟨j, h1, h2, h3, h4⟩ := firstSome_some (k := k) (i := i + 1) h
      refine ⟨j, by omega, by omega, h3, fun j' g1 g2 => ?_⟩
      by_cases e : j' = i
      · subst e; exact hf
      · exact h4 j' (by omega) g2
theorem firstSome_congr {V : Type} {f f' : Nat → Option V} : ∀ {k i : Nat}, (∀ j, i ≤ j → j < i + k → f j = f' j) → firstSome f k i = firstSome f' k i
  | 0, i, _ => rfl
  | k + 1, i, h => by
    rw [firstSome, firstSome, h i (Nat.le_refl _) (by omega), firstSome_congr (k := k) (i := i + 1) fun j h1 h2 => h j (by omega) (by omega)]
def scanX {V : Type} : Option V → Sum Unit V
  | none => .inl ()
  | some v => .inr v
/-- A loop that asks, number by number, and ends at the first answer. -/
theorem iter_scan {V : Type} {body : Int → Option (Stp Int (Sum Unit V))} (n : Nat) (f : Nat → Option V)
    (hstep : ∀ i, i < n → (∀ j, j < i → f j = none) → body (i : Int) = some (match f i with | none => .next ((i + 1 : Nat) : Int) | some v => .done (.inr v)))
    (hend : (∀ j, j < n → f j = none) → body (n : Int) = some (.done (.inl ()))) : iter body 0 = some (scanX (firstSome f n 0)) := by
  have key : ∀ (k i : Nat), i + k = n → (∀ j, j < i → f j = none) → iter body (i : Int) = some (scanX (firstSome f k i)) := by
    intro k
    induction k with
    | zero =>
      intro i h hi
      have : i = n := by omega
      subst this
      rw [iter_done (hend hi)]
      rfl
    | succ k ih =>
      intro i h hi
      have h1 := hstep i (by omega) hi
      rw [firstSome]
      cases hf : f i with
      | none =>
        rw [hf] at h1
        rw [iter_next h1]
        refine ih (i + 1) (by omega) fun j hj => ?_
        by_cases e : j = i
        · subst e; exact hf
        · exact hi j (by omega)
      | some v => rw [hf] at h1; rw [iter_done h1]; rfl
  exact key n 0 (by omega) fun j hj => absurd hj (Nat.not_lt_zero _)
theorem any_scan' {α : Type} (l : List α) (d : α) (p : α → Bool) : (match firstSome (fun k => if p (l.getD k d) = true then some true else none) l.length 0 with | none => false | some v => v) = l.any p := by
  cases hf : firstSome (fun k => if p (l.getD k d) = true then some true else none) l.length 0 with
  | none =>
    have h := firstSome_none.1 hf
    refine Eq.symm (List.any_eq_false.2 fun x hx => ?_)
    obtain ⟨i, hi, rfl⟩ := List.getElem_of_mem hx
    have := h i (Nat.zero_le _) (by omega)
    have e : l.getD i d = l[i] := by simp [List.getD_eq_getElem?_getD, hi]
    simp only [e] at this
    split at this
    · cases this
    · assumption
  | some w =>
    obtain ⟨j, _, hj, h, _⟩ := firstSome_some hf
    split at h
    · cases h
      exact Eq.symm (List.any_eq_true.2 ⟨l.getD j d, getD_mem (by omega), by assumption⟩)
    · cases h
/-- 'some (bif ..)' and its like, made plain. -/
theorem cond_ite {α : Type} (b : Bool) (x y : α) : (bif b then x else y) = if b = true then x else y := by cases b <;> rfl
theorem bind_some' {α β : Type} (x : α) (f : α → Option β) : Option.bind (some x) f = f x := rfl
def hitR (r : Int) (x : T_api_Range) : Bool := decide (x.f_Lo ≤ r) && decide (r ≤ x.f_Hi)
def fndO : Option T_api_Range → Int × Bool
  | some x => (x.f_Value, true)
  | none => (0, false)
/-- What a search of ranges answers. -/
def fnd (l : List T_api_Range) (r : Int) : Int × Bool := fndO (l.find? (hitR r))
theorem find_loop (l : List T_api_Range) (r : Int) (hl : l.length < 4611686018427387904) : ∀ (k i : Nat), i + k = l.length → iter (m_eponymref03_Find_L5 l r) (i : Int) = some (match (l.drop i).find? (hitR r) with | some x => .inr (x.f_Value, true) | none => .inl ())
  | 0, i, h => by
    rw [iter_step]
    simp [m_eponymref03_Find_L5, show ¬ i < l.length by omega, List.drop_of_length_le (show l.length ≤ i by omega)]
  | k + 1, i, h => by
    have ih := find_loop l r hl k (i + 1) (by omega)
    rw [iter_step, drop_getD (d := d_api_Range) (show i < l.length by omega)]
    by_cases h1 : (l.getD i d_api_Range).f_Lo ≤ r <;> by_cases h2 : r ≤ (l.getD i d_api_Range).f_Hi <;>
      simp [m_eponymref03_Find_L5, m_eponymref03_Find_K8, show i < l.length by omega, h1, h2, hitR, up (show i < 9223372036854775807 by omega), ih, List.find?_cons, -List.getD_eq_getElem?_getD, -Int.natCast_add]
theorem find_eq (l : List T_api_Range) (r : Int) (hl : l.length < 4611686018427387904) : m_eponymref03_Find l r = some (fnd l r) := by
  have h := find_loop l r hl l.length 0 (by omega)
  simp only [m_eponymref03_Find]
  rw [show (0 : Int) = ((0 : Nat) : Int) from rfl, h]
  unfold fnd
  rw [List.drop_zero]
  cases l.find? (hitR r) <;> rfl
/-- In order. -/
def ordered (l : List T_api_Range) : Prop := (∀ x ∈ l, x.f_Lo ≤ x.f_Hi) ∧ l.Pairwise fun x y => x.f_Hi < y.f_Lo
theorem search_eq (l : List T_api_Range) (r : Int) (hl : l.length < 4611686018427387904) (ho : ordered l) : ∃ y : Nat, m_sort_Search_ranges_Find_1 (l.length : Int) l r = some ((y : Nat) : Int) ∧ isFirst (fun k => (l.getD k d_api_Range).f_Hi ≥ r) l.length y := by
  have hmono : ∀ i j, i < j → j < l.length → (l.getD i d_api_Range).f_Hi < (l.getD j d_api_Range).f_Hi := fun i j hij hj => by
    have h1 := getD_pair (d := d_api_Range) ho.2 hij hj
    have h2 := ho.1 _ (getD_mem (d := d_api_Range) hj)
    omega
  have key : ∃ x, iter (m_sort_Search_ranges_Find_1_L5 l r) ((0 : Int), (l.length : Int)) = some x ∧ ∃ y : Nat, x = (y : Int) ∧ isFirst (fun k => (l.getD k d_api_Range).f_Hi ≥ r) l.length y := by
    refine iter_inv (fun s => ∃ i j : Nat, s = ((i : Int), (j : Int)) ∧ i ≤ j ∧ j ≤ l.length ∧ (∀ k, k < i → ¬ (l.getD k d_api_Range).f_Hi ≥ r) ∧ (j < l.length → (l.getD j d_api_Range).f_Hi ≥ r)) (fun s => (s.2 - s.1).toNat) _ ?_ _ ⟨0, l.length, rfl, Nat.zero_le _, Nat.le_refl _, fun k hk => absurd hk (Nat.not_lt_zero _), fun h => absurd h (Nat.lt_irrefl _)⟩
    rintro s ⟨i, j, rfl, hij, hjn, hlo, hhi⟩
    by_cases hlt : i < j
    · left
      have hm := mid (i := i) (j := j) (by omega)
      have hmi : (i + j) / 2 < l.length := by omega
      by_cases hp : (l.getD ((i + j) / 2) d_api_Range).f_Hi ≥ r
      · refine ⟨((i : Int), (((i + j) / 2 : Nat) : Int)), ?_, ⟨i, (i + j) / 2, rfl, by omega, by omega, hlo, fun _ => hp⟩, ?_⟩
        · simp only [m_sort_Search_ranges_Find_1_L5, m_ranges_Find_1, hm]
          rw [if_pos ⟨by omega, by omega⟩]
          simp only [Int.toNat_natCast, Option.bind_some, decide_eq_true hp, decide_eq_true (show (i : Int) < j by omega)]
          rfl
        · show ((((i + j) / 2 : Nat) : Int) - i).toNat < ((j : Int) - i).toNat
          omega
      · refine ⟨((((i + j) / 2 + 1 : Nat) : Int), (j : Int)), ?_, ⟨(i + j) / 2 + 1, j, rfl, by omega, hjn, fun k hk hkr => ?_, hhi⟩, ?_⟩
        · simp only [m_sort_Search_ranges_Find_1_L5, m_ranges_Find_1, hm]
          rw [if_pos ⟨by omega, by omega⟩]
          simp only [Int.toNat_natCast, Option.bind_some, decide_eq_false hp, decide_eq_true (show (i : Int) < j by omega), up (show (i + j) / 2 < 9223372036854775807 by omega)]
          rfl
        · by_cases e : k = (i + j) / 2
          · subst e; exact hp hkr
          · have := hmono k ((i + j) / 2) (by omega) hmi
            omega
        · show ((j : Int) - (((i + j) / 2 + 1 : Nat) : Int)).toNat < ((j : Int) - i).toNat
          omega
    · right
      have e : i = j := by omega
      subst e
      refine ⟨(i : Int), ?_, i, rfl, hjn, hlo, hhi⟩
      simp [m_sort_Search_ranges_Find_1_L5]
  obtain ⟨x, hx, y, rfl, hq⟩ := key
  refine ⟨y, ?_, hq⟩
  simp only [m_sort_Search_ranges_Find_1, hx, Option.bind_some]
theorem first_find {l : List T_api_Range} {r : Int} (ho : ordered l) {y : Nat} (h : isFirst (fun k => (l.getD k d_api_Range).f_Hi ≥ r) l.length y) :
    fnd l r = if y < l.length then (if (l.getD y d_api_Range).f_Lo ≤ r then ((l.getD y d_api_Range).f_Value, true) else (0, false)) else (0, false) := by
  obtain ⟨h1, h2, h3⟩ := h
  -- nothing ahead of y is hit
  have hno : (l.take y).find? (hitR r) = none := by
    rw [List.find?_eq_none]
    intro x hx
    obtain ⟨k, hk, rfl⟩ := List.getElem_of_mem hx
    have hk' : k < y := by rw [List.length_take] at hk; omega
    have : ¬ (l.getD k d_api_Range).f_Hi ≥ r := h2 k hk'
    have e : l.getD k d_api_Range = (l.take y)[k] := by simp [List.getD_eq_getElem?_getD, show k < l.length by omega]
    rw [e] at this
    simp only [hitR, Bool.and_eq_true, decide_eq_true_eq]
    omega
  have hsp : fnd l r = fndO ((l.drop y).find? (hitR r)) := by
    unfold fnd
    conv => lhs; rw [← List.take_append_drop y l, List.find?_append, hno]
    simp
  rw [hsp]
  by_cases hy : y < l.length
  · rw [if_pos hy, drop_getD (d := d_api_Range) hy]
    have hhi : (l.getD y d_api_Range).f_Hi ≥ r := h3 hy
    by_cases hlo : (l.getD y d_api_Range).f_Lo ≤ r
    · have : hitR r (l.getD y d_api_Range) = true := by simp only [hitR, Bool.and_eq_true, decide_eq_true_eq]; omega
      rw [if_pos hlo, List.find?_cons, this]
      rfl
    · have : hitR r (l.getD y d_api_Range) = false := by simp [hitR, hlo, -List.getD_eq_getElem?_getD]
      rw [if_neg hlo, List.find?_cons, this]
      have hrest : (l.drop (y + 1)).find? (hitR r) = none := by
        rw [List.find?_eq_none]
        intro x hx
        obtain ⟨k, hk, rfl⟩ := List.getElem_of_mem hx
        rw [List.length_drop] at hk
        have e : l.getD (y + 1 + k) d_api_Range = (l.drop (y + 1))[k]'(by rw [List.length_drop]; exact hk) := by simp [List.getD_eq_getElem?_getD, show y + 1 + k < l.length by omega]
        have h4 := getD_pair (d := d_api_Range) ho.2 (show y < y + 1 + k by omega) (by omega)
        rw [e] at h4
        simp only [hitR, Bool.and_eq_true, decide_eq_true_eq]
        omega
      simp only [hrest]
      rfl
  · rw [if_neg hy, List.drop_of_length_le (by omega)]
    rfl
theorem ranges_find_eq (l : List T_api_Range) (r : Int) (hl : l.length < 4611686018427387904) (ho : ordered l) : m_ranges_Find l r = some (fnd l r) := by
  obtain ⟨y, hy, hf⟩ := search_eq l r hl ho
  rw [first_find ho hf]
  simp only [m_ranges_Find, hy, Option.bind_some]
  by_cases h1 : y < l.length
  · have e1 : ((y : Int) == (l.length : Int)) = false := by simp; omega
    have e2 : (0 : Int) ≤ y ∧ (y : Int) < l.length := by omega
    by_cases h2 : (l.getD y d_api_Range).f_Lo ≤ r
    · rw [e1, cond_false, if_pos e2, if_pos h1, if_pos h2]
      simp only [Int.toNat_natCast, Option.bind_some, m_ranges_Find_K3, if_pos e2]
      rw [decide_eq_false (by omega)]
      rfl
    · rw [e1, cond_false, if_pos e2, if_pos h1, if_neg h2]
      simp only [Int.toNat_natCast, Option.bind_some, m_ranges_Find_K3]
      rw [decide_eq_true (by omega)]
      rfl
  · have e1 : ((y : Int) == (l.length : Int)) = true := by have := hf.1; simp; omega
    rw [e1, if_neg h1]
    rfl
def mayB (x : T_api_Range) : Bool := decide (x.f_Lo ≥ 0) && decide (x.f_Lo ≤ x.f_Hi) && decide (x.f_Hi ≤ 1114111) && decide (x.f_Value ≥ 0) && decide (x.f_Value ≤ 999999)
theorem may_eq (x : T_api_Range) : m_eponymref03_May x = some (mayB x) := by
  unfold m_eponymref03_May mayB
  by_cases h1 : x.f_Lo ≥ 0 <;> by_cases h2 : x.f_Lo ≤ x.f_Hi <;> by_cases h3 : x.f_Hi ≤ 1114111 <;> by_cases h4 : x.f_Value ≥ 0 <;> simp [h1, h2, h3, h4]
/-- What is wrong with range i of a table. -/
def chkF (l : List T_api_Range) (i : Nat) : Option (Int × Int) :=
  if mayB (l.getD i d_api_Range) = false then some (i, 4)
  else if 0 < i ∧ (l.getD i d_api_Range).f_Lo ≤ (l.getD (i - 1) d_api_Range).f_Hi then some (i, 6) else none
def chkR (l : List T_api_Range) : Int × Int := if 2000 < l.length then (0, 18) else (firstSome (chkF l) l.length 0).getD (0, 0)
theorem check03_eq (l : List T_api_Range) : m_eponymref03_Check l = some (chkR l) := by
  unfold m_eponymref03_Check chkR
  by_cases hn : 2000 < l.length
  · rw [if_pos hn, decide_eq_true (by omega)]; rfl
  · rw [if_neg hn, decide_eq_false (by omega), cond_false]
    rw [iter_scan l.length (chkF l) (fun i hi _ => ?_) (fun _ => ?_)]
    · cases firstSome (chkF l) l.length 0 <;> rfl
    · unfold m_eponymref03_Check_L5 chkF
      rw [decide_eq_true (by omega), cond_true, if_pos ⟨by omega, by omega⟩, Int.toNat_natCast, may_eq, bind_some']
      cases hm : mayB (l.getD i d_api_Range) with
      | false => rfl
      | true =>
        simp only [Bool.not_true, cond_false, Bool.true_eq_false, if_false]
        by_cases h0 : 0 < i
        · rw [decide_eq_true (by omega), cond_true, if_pos ⟨by omega, by omega⟩, down h0 (by omega), if_pos ⟨by omega, by omega⟩, bind_some', Int.toNat_natCast]
          by_cases h1 : (l.getD i d_api_Range).f_Lo ≤ (l.getD (i - 1) d_api_Range).f_Hi
          · rw [if_pos ⟨h0, h1⟩, decide_eq_true h1]; rfl
          · rw [if_neg (fun h => h1 h.2), decide_eq_false h1]
            simp only [m_eponymref03_Check_K9, cond_false, up (show i < 9223372036854775807 by omega)]
        · rw [decide_eq_false (by omega), cond_false, bind_some', if_neg (fun h => h0 h.1)]
          simp only [m_eponymref03_Check_K9, cond_false, up (show i < 9223372036854775807 by omega)]
    · unfold m_eponymref03_Check_L5
      rw [decide_eq_false (by omega)]; rfl
theorem pairwise_of_steps {α : Type} {R : α → α → Prop} {d : α} (tr : ∀ a b c, R a b → R b c → R a c) : ∀ (l : List α), (∀ i, 0 < i → i < l.length → R (l.getD (i - 1) d) (l.getD i d)) → l.Pairwise R
  | [], _ => .nil
  | x :: l, h => by
    have ih := pairwise_of_steps tr l fun i h0 hi => by have := h (i + 1) (by omega) (by simpa using hi); rw [show i + 1 - 1 = (i - 1) + 1 by omega] at this; simpa using this
    refine List.pairwise_cons.2 ⟨?_, ih⟩
    cases l with
    | nil => intro y hy; cases hy
    | cons y l =>
      have h1 : R x y := h 1 (by omega) (by simp)
      intro z hz
      rcases List.mem_cons.1 hz with rfl | hz
      · exact h1
      · exact tr _ _ _ h1 ((List.pairwise_cons.1 ih).1 z hz)
theorem chk_right {l : List T_api_Range} (h : (chkR l).2 = 0) : l.length ≤ 2000 ∧ ordered l ∧ ∀ x ∈ l, mayB x = true := by
  unfold chkR at h
  by_cases hn : 2000 < l.length
  · rw [if_pos hn] at h; cases h
  · rw [if_neg hn] at h
    have hnone : firstSome (chkF l) l.length 0 = none := by
      cases hf : firstSome (chkF l) l.length 0 with
      | none => rfl
      | some v =>
        obtain ⟨j, _, _, hj, _⟩ := firstSome_some hf
        rw [hf] at h
        simp only [Option.getD_some] at h
        unfold chkF at hj
        split at hj
        · cases hj; cases h
        · split at hj
          · cases hj; cases h
          · cases hj
    have hall := firstSome_none.1 hnone
    have hmay : ∀ i, i < l.length → mayB (l.getD i d_api_Range) = true := fun i hi => by
      have := hall i (Nat.zero_le _) (by omega)
      unfold chkF at this
      split at this
      · cases this
      · rename_i hm; simpa using hm
    have hm : ∀ x ∈ l, mayB x = true := fun x hx => by
      obtain ⟨i, hi, rfl⟩ := List.getElem_of_mem hx
      have := hmay i hi
      simpa [List.getD_eq_getElem?_getD, hi] using this
    have hstep : ∀ i, 0 < i → i < l.length → (l.getD (i - 1) d_api_Range).f_Hi < (l.getD i d_api_Range).f_Lo := fun i h0 hi => by
      have := hall i (Nat.zero_le _) (by omega)
      unfold chkF at this
      split at this
      · cases this
      · split at this
        · cases this
        · rename_i hc; omega
    have hlo : ∀ x ∈ l, x.f_Lo ≤ x.f_Hi := fun x hx => by
      have := hm x hx
      simp only [mayB, Bool.and_eq_true, decide_eq_true_eq] at this
      omega
    refine ⟨by omega, ⟨hlo, ?_⟩, hm⟩
    -- neighbours suffice, as each range is no emptier than a rune
    have hp : l.Pairwise fun x y => x.f_Hi < y.f_Lo ∧ y.f_Lo ≤ y.f_Hi := by
      refine pairwise_of_steps (d := d_api_Range) (fun a b c h1 h2 => ⟨by omega, h2.2⟩) l fun i h0 hi => ⟨hstep i h0 hi, hlo _ (getD_mem hi)⟩
    exact hp.imp fun h => h.1
end Go.Proofs.Ytjhgaacecfmadaa
