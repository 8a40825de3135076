/- Merged of texts of ours: P0, PBs, PUtf, PVarA, POdo, PVarK, PKeysA, PSeq, PAllLA. No condition. -/
import Derived.Test.YtclhniadffljdaaDoorM
namespace Go.Proofs.YtclhniadffljdaaDoor
open Go Go.SE
set_option linter.unusedVariables false
set_option linter.unusedSimpArgs false
theorem iter_none {S X : Type} {body : S → Option (Stp S X)} {s : S} (h : body s = none) : iter body s = none := by
  cases hi : iter body s with
  | none => rfl
  | some x =>
    obtain ⟨k, hk⟩ := iter_out hi
    cases k with
    | zero => cases hk
    | succ k => rw [iterN, h] at hk; cases hk
theorem iter_step {S X : Type} {body : S → Option (Stp S X)} {s : S} : iter body s = match body s with | some (.next s') => iter body s' | some (.done x) => some x | none => none := by
  cases hb : body s with
  | none => exact iter_none hb
  | some st =>
    cases st with
    | next s' => exact iter_next hb
    | done x => exact iter_done hb
theorem w64 {x : Int} (h : -9223372036854775808 ≤ x) (h' : x ≤ 9223372036854775807) : IntKind.wrap .i64 x = x := by
  have e1 : (IntKind.i64).bits = 64 := rfl
  have e2 : (IntKind.i64).signed = true := rfl
  simp only [IntKind.wrap, e1, e2, Bool.true_and, decide_eq_true_eq]
  split <;> omega
theorem wu64 {x : Int} (h : 0 ≤ x) (h' : x ≤ 18446744073709551615) : IntKind.wrap .u64 x = x := by
  have e1 : (IntKind.u64).bits = 64 := rfl
  have e2 : (IntKind.u64).signed = false := rfl
  simp only [IntKind.wrap, e1, e2, Bool.false_and]
  simp
  omega
theorem w32 {x : Int} (h : -2147483648 ≤ x) (h' : x ≤ 2147483647) : IntKind.wrap .i32 x = x := by
  have e1 : (IntKind.i32).bits = 32 := rfl
  have e2 : (IntKind.i32).signed = true := rfl
  simp only [IntKind.wrap, e1, e2, Bool.true_and, decide_eq_true_eq]
  split <;> omega
/-- One more. -/
theorem up {i : Nat} (h : i < 9223372036854775807) : IntKind.wrap .i64 ((i : Int) + 1) = ((i + 1 : Nat) : Int) := by
  rw [w64 (by omega) (by omega)]; omega
theorem down {i : Nat} (h : 0 < i) (h2 : i ≤ 9223372036854775807) : IntKind.wrap .i64 ((i : Int) - 1) = ((i - 1 : Nat) : Int) := by
  rw [w64 (by omega) (by omega)]; omega
theorem mid {i j : Nat} (h : i + j < 9223372036854775808) : IntKind.wrap .i64 (Int.fdiv (IntKind.wrap .u64 (IntKind.wrap .i64 ((i : Int) + (j : Int)))) 2) = (((i + j) / 2 : Nat) : Int) := by
  rw [w64 (x := (i : Int) + j) (by omega) (by omega), wu64 (by omega) (by omega), Int.fdiv_eq_ediv_of_nonneg _ (by omega), w64 (by omega) (by omega)]
  omega
theorem drop_getD {α : Type} {l : List α} {d : α} {i : Nat} (h : i < l.length) : l.drop i = l.getD i d :: l.drop (i + 1) := by
  rw [List.drop_eq_getElem_cons h]
  simp [List.getD_eq_getElem?_getD, h]
theorem getD_mem {α : Type} {l : List α} {d : α} {i : Nat} (h : i < l.length) : l.getD i d ∈ l := by
  simp [List.getD_eq_getElem?_getD, h]
theorem getD_pair {α : Type} {R : α → α → Prop} {d : α} : ∀ {l : List α}, l.Pairwise R → ∀ {i j : Nat}, i < j → j < l.length → R (l.getD i d) (l.getD j d)
  | [], _, i, j, _, h => absurd h (Nat.not_lt_zero _)
  | x :: l, hp, 0, j + 1, _, h => (List.pairwise_cons.1 hp).1 _ (getD_mem (by simpa using h))
  | x :: l, hp, i + 1, j + 1, hij, h => getD_pair (List.pairwise_cons.1 hp).2 (by omega) (by simpa using h)
/-- A binary search's answer. -/
def isFirst (p : Nat → Prop) (n y : Nat) : Prop := y ≤ n ∧ (∀ k, k < y → ¬ p k) ∧ (y < n → p y)
/-! ### Loops over numbers -/
section
variable {S X A : Type}
def foldX (g : Nat → A → Sum A X) (e : A → X) : Nat → Nat → A → X
  | 0, _, a => e a
  | k + 1, i, a => match g i a with | .inl a' => foldX g e k (i + 1) a' | .inr x => x
theorem iter_fold {body : S → Option (Stp S X)} (st : Nat → A → S) (n : Nat) (g : Nat → A → Sum A X) (e : A → X) (I : Nat → A → Prop)
    (hstep : ∀ i a, i < n → I i a → body (st i a) = some (match g i a with | .inl a' => .next (st (i + 1) a') | .inr x => .done x) ∧ ∀ a', g i a = .inl a' → I (i + 1) a')
    (hend : ∀ a, I n a → body (st n a) = some (.done (e a))) : ∀ (k i : Nat) (a : A), i + k = n → I i a → iter body (st i a) = some (foldX g e k i a)
  | 0, i, a, h, hi => by
    have : i = n := by omega
    subst this
    rw [iter_done (hend a hi)]
    rfl
  | k + 1, i, a, h, hi => by
    obtain ⟨h1, h2⟩ := hstep i a (by omega) hi
    rw [foldX]
    cases hg : g i a with
    | inl a' =>
      rw [hg] at h1
      rw [iter_next h1]
      exact iter_fold st n g e I hstep hend k (i + 1) a' (by omega) (h2 a' hg)
    | inr x => rw [hg] at h1; rw [iter_done h1]
end
/-- The first answer of a row of questions. -/
def firstSome {V : Type} (f : Nat → Option V) : Nat → Nat → Option V
  | 0, _ => none
  | k + 1, i => match f i with | some v => some v | none => firstSome f k (i + 1)
theorem firstSome_none {V : Type} {f : Nat → Option V} : ∀ {k i : Nat}, firstSome f k i = none ↔ ∀ j, i ≤ j → j < i + k → f j = none
  | 0, i => ⟨fun _ j h1 h2 => by omega, fun _ => rfl⟩
  | k + 1, i => by
    rw [firstSome]
    cases hf : f i with
    | some v => exact ⟨fun h => (by cases h), fun h => by have := h i (Nat.le_refl _) (by omega); rw [hf] at this; cases this⟩
    | none =>
      show firstSome f k (i + 1) = none ↔ _
      rw [firstSome_none]
      refine ⟨fun h j h1 h2 => ?_, fun h j h1 h2 => h j (by omega) (by omega)⟩
      by_cases e : j = i
      · subst e; exact hf
      · exact h j (by omega) (by omega)
theorem firstSome_some {V : Type} {f : Nat → Option V} {v : V} : ∀ {k i : Nat}, firstSome f k i = some v → ∃ j, i ≤ j ∧ j < i + k ∧ f j = some v ∧ ∀ j', i ≤ j' → j' < j → f j' = none
  | 0, i, h => by cases h
  | k + 1, i, h => by
    rw [firstSome] at h
    cases hf : f i with
    | some w => rw [hf] at h; cases h; exact ⟨i, Nat.le_refl _, by omega, hf, fun j' h1 h2 => by omega⟩
    | none =>
      rw [hf] at h
      obtain ⟨j, h1, h2, h3, h4⟩ := firstSome_some (k := k) (i := i + 1) h
      refine ⟨j, by omega, by omega, h3, fun j' g1 g2 => ?_⟩
      by_cases e : j' = i
      · subst e; exact hf
      · exact h4 j' (by omega) g2
theorem firstSome_congr {V : Type} {f f' : Nat → Option V} : ∀ {k i : Nat}, (∀ j, i ≤ j → j < i + k → f j = f' j) → firstSome f k i = firstSome f' k i
  | 0, i, _ => rfl
  | k + 1, i, h => by
    rw [firstSome, firstSome, h i (Nat.le_refl _) (by omega), firstSome_congr (k := k) (i := i + 1) fun j h1 h2 => h j (by omega) (by omega)]
def scanX {V : Type} : Option V → Sum Unit V
  | none => .inl ()
  | some v => .inr v
/-- A loop that asks, number by number, and ends at the first answer. -/
theorem iter_scan {V : Type} {body : Int → Option (Stp Int (Sum Unit V))} (n : Nat) (f : Nat → Option V)
    (hstep : ∀ i, i < n → (∀ j, j < i → f j = none) → body (i : Int) = some (match f i with | none => .next ((i + 1 : Nat) : Int) | some v => .done (.inr v)))
    (hend : (∀ j, j < n → f j = none) → body (n : Int) = some (.done (.inl ()))) : iter body 0 = some (scanX (firstSome f n 0)) := by
  have key : ∀ (k i : Nat), i + k = n → (∀ j, j < i → f j = none) → iter body (i : Int) = some (scanX (firstSome f k i)) := by
    intro k
    induction k with
    | zero =>
      intro i h hi
      have : i = n := by omega
      subst this
      rw [iter_done (hend hi)]
      rfl
    | succ k ih =>
      intro i h hi
      have h1 := hstep i (by omega) hi
      rw [firstSome]
      cases hf : f i with
      | none =>
        rw [hf] at h1
        rw [iter_next h1]
        refine ih (i + 1) (by omega) fun j hj => ?_
        by_cases e : j = i
        · subst e; exact hf
        · exact hi j (by omega)
      | some v => rw [hf] at h1; rw [iter_done h1]; rfl
  exact key n 0 (by omega) fun j hj => absurd hj (Nat.not_lt_zero _)
theorem any_scan' {α : Type} (l : List α) (d : α) (p : α → Bool) : (match firstSome (fun k => if p (l.getD k d) = true then some true else none) l.length 0 with | none => false | some v => v) = l.any p := by
  cases hf : firstSome (fun k => if p (l.getD k d) = true then some true else none) l.length 0 with
  | none =>
    have h := firstSome_none.1 hf
    refine Eq.symm (List.any_eq_false.2 fun x hx => ?_)
    obtain ⟨i, hi, rfl⟩ := List.getElem_of_mem hx
    have := h i (Nat.zero_le _) (by omega)
    have e : l.getD i d = l[i] := by simp [List.getD_eq_getElem?_getD, hi]
    simp only [e] at this
    split at this
    · cases this
    · assumption
  | some w =>
    obtain ⟨j, _, hj, h, _⟩ := firstSome_some hf
    split at h
    · cases h
      exact Eq.symm (List.any_eq_true.2 ⟨l.getD j d, getD_mem (by omega), by assumption⟩)
    · cases h
/-- 'some (bif ..)' and its like, made plain. -/
theorem cond_ite {α : Type} (b : Bool) (x y : α) : (bif b then x else y) = if b = true then x else y := by cases b <;> rfl
theorem bind_some' {α β : Type} (x : α) (f : α → Option β) : Option.bind (some x) f = f x := rfl
/-! ### A rune sought in a rising row -/
def risingL (l : List Int) : Prop := ∀ i j, i < j → j < l.length → l.getD i 0 < l.getD j 0
theorem less_eq (x y : Int) : m_cmp_Less_rune x y = some (decide (x < y)) := by
  unfold m_cmp_Less_rune m_cmp_isNaN_rune
  rw [bind_some', show (x != x) = false by simp]; rfl
theorem bsearch_eq (l : List Int) (r : Int) (hl : l.length < 4611686018427387904) (hmono : risingL l) : ∃ y : Nat, iter (m_slices_BinarySearch_rune_rune_L7 l r) ((0 : Int), (l.length : Int)) = some ((y : Nat) : Int) ∧ isFirst (fun k => l.getD k 0 ≥ r) l.length y := by
  have key : ∃ x, iter (m_slices_BinarySearch_rune_rune_L7 l r) ((0 : Int), (l.length : Int)) = some x ∧ ∃ y : Nat, x = (y : Int) ∧ isFirst (fun k => l.getD k 0 ≥ r) l.length y := by
    refine iter_inv (fun s => ∃ i j : Nat, s = ((i : Int), (j : Int)) ∧ i ≤ j ∧ j ≤ l.length ∧ (∀ k, k < i → ¬ l.getD k 0 ≥ r) ∧ (j < l.length → l.getD j 0 ≥ r)) (fun s => (s.2 - s.1).toNat) _ ?_ _ ⟨0, l.length, rfl, Nat.zero_le _, Nat.le_refl _, fun k hk => absurd hk (Nat.not_lt_zero _), fun h => absurd h (Nat.lt_irrefl _)⟩
    rintro s ⟨i, j, rfl, hij, hjn, hlo, hhi⟩
    by_cases hlt : i < j
    · left
      have hm := mid (i := i) (j := j) (by omega)
      have hmi : (i + j) / 2 < l.length := by omega
      by_cases hp : l.getD ((i + j) / 2) 0 ≥ r
      · refine ⟨((i : Int), (((i + j) / 2 : Nat) : Int)), ?_, ⟨i, (i + j) / 2, rfl, by omega, by omega, hlo, fun _ => hp⟩, ?_⟩
        · simp only [m_slices_BinarySearch_rune_rune_L7, less_eq, hm]
          rw [if_pos ⟨by omega, by omega⟩]
          simp only [Int.toNat_natCast, Option.bind_some, decide_eq_false (show ¬ l.getD ((i + j) / 2) 0 < r by omega), decide_eq_true (show (i : Int) < j by omega)]
          rfl
        · show ((((i + j) / 2 : Nat) : Int) - i).toNat < ((j : Int) - i).toNat
          omega
      · refine ⟨((((i + j) / 2 + 1 : Nat) : Int), (j : Int)), ?_, ⟨(i + j) / 2 + 1, j, rfl, by omega, hjn, fun k hk hkr => ?_, hhi⟩, ?_⟩
        · simp only [m_slices_BinarySearch_rune_rune_L7, less_eq, hm]
          rw [if_pos ⟨by omega, by omega⟩]
          simp only [Int.toNat_natCast, Option.bind_some, decide_eq_true (show l.getD ((i + j) / 2) 0 < r by omega), decide_eq_true (show (i : Int) < j by omega), up (show (i + j) / 2 < 9223372036854775807 by omega)]
          rfl
        · by_cases e : k = (i + j) / 2
          · subst e; exact hp hkr
          · have := hmono k ((i + j) / 2) (by omega) hmi
            omega
        · show ((j : Int) - (((i + j) / 2 + 1 : Nat) : Int)).toNat < ((j : Int) - i).toNat
          omega
    · right
      have e : i = j := by omega
      subst e
      refine ⟨(i : Int), ?_, i, rfl, hjn, hlo, hhi⟩
      simp [m_slices_BinarySearch_rune_rune_L7]
  obtain ⟨x, hx, y, rfl, hq⟩ := key
  exact ⟨y, hx, hq⟩
theorem bs_eq (l : List Int) (r : Int) (hl : l.length ≤ 2000) (hmono : risingL l) : ∃ y, m_slices_BinarySearch_rune_rune l r = some (y, l.any fun x => x == r) := by
  obtain ⟨y, hy, h1, h2, h3⟩ := bsearch_eq l r (by omega) hmono
  unfold m_slices_BinarySearch_rune_rune m_slices_BinarySearch_rune_rune_K2 m_slices_isNaN_rune
  rw [hy, bind_some']
  have nohit : (∀ j, j < l.length → l.getD j 0 ≠ r) → (l.any fun x => x == r) = false := fun h => List.any_eq_false.2 fun x hx => by
    obtain ⟨i, hi, rfl⟩ := List.getElem_of_mem hx
    have := h i hi
    have e : l.getD i 0 = l[i] := by simp [List.getD_eq_getElem?_getD, hi]
    rw [e] at this
    simpa using this
  by_cases hlt : y < l.length
  · have hge : l.getD y 0 ≥ r := h3 hlt
    rw [decide_eq_true (by omega), cond_true, if_pos ⟨by omega, by omega⟩, Int.toNat_natCast]
    by_cases he : l.getD y 0 = r
    · refine ⟨(y : Int), ?_⟩
      rw [beq_iff_eq.2 he, cond_true, List.any_eq_true.2 ⟨l.getD y 0, getD_mem hlt, by simpa using he⟩]
    · refine ⟨(y : Int), ?_⟩
      rw [beq_false_of_ne he, cond_false, if_pos ⟨by omega, by omega⟩, bind_some', show (l.getD y 0 != l.getD y 0) = false by simp, cond_false, nohit fun j hj => ?_]
      by_cases e : j < y
      · have : ¬ l.getD j 0 ≥ r := h2 j e
        omega
      · by_cases e2 : j = y
        · subst e2; exact he
        · have := hmono y j (by omega) hj
          omega
  · refine ⟨(y : Int), ?_⟩
    rw [decide_eq_false (by omega), cond_false, nohit fun j hj => ?_]
    have : ¬ l.getD j 0 ≥ r := h2 j (by omega)
    omega
theorem bindTot {α β : Type} {m : Option α} {f : α → Option β} (h : ∃ x, m = some x) (k : ∀ x, ∃ y, f x = some y) : ∃ y, Option.bind m f = some y := by
  obtain ⟨x, rfl⟩ := h; exact k x
theorem tot1 {α : Type} (a : Bool) (c d : α) : ∃ x, (bif a then some c else some d) = some x := by cases a <;> exact ⟨_, rfl⟩
theorem tot2 {α : Type} (a b : Bool) (c d e : α) : ∃ x, (bif a then bif b then some c else some d else some e) = some x := by cases a <;> cases b <;> exact ⟨_, rfl⟩
theorem tot2' {α : Type} (a b : Bool) (c e : α) : ∃ x, (bif a then bif b then some c else some e else some e) = some x := tot2 a b c e e
theorem condTot {α : Type} (a : Bool) {m n : Option α} (h : ∃ x, m = some x) (k : ∃ x, n = some x) : ∃ x, (bif a then m else n) = some x := by cases a <;> first | exact k | exact h
theorem value_loop (s : ByteArray) (hs : s.size ≤ 1000000) : ∀ (k i : Nat) (r : Int), i + k = s.size → ∃ z, iter (m_eponymref01_value_L13 s) (r, (i : Int)) = some z := by
  intro k
  induction k with
  | zero =>
    intro i r hi
    refine ⟨.inl r, iter_done ?_⟩
    unfold m_eponymref01_value_L13
    simp only
    rw [decide_eq_false (by omega)]; rfl
  | succ k ih =>
    intro i r hi
    have e : ∃ b : Bool, m_eponymref01_value_L13 s (r, (i : Int)) = m_eponymref01_value_K16 s (r, (i : Int)) b := by
      unfold m_eponymref01_value_L13
      simp only
      rw [decide_eq_true (by omega), cond_true, if_pos ⟨by omega, by omega⟩, if_pos ⟨by omega, by omega⟩]
      cases decide (bt s (i : Int) < 128) <;> exact ⟨_, rfl⟩
    obtain ⟨b, e⟩ := e
    cases b with
    | true => exact ⟨_, iter_done (e.trans rfl)⟩
    | false =>
      have e2 : ∃ r', m_eponymref01_value_K16 s (r, (i : Int)) false = some (.next (r', ((i + 1 : Nat) : Int))) := by
        unfold m_eponymref01_value_K16
        simp only
        rw [cond_false, if_pos ⟨by omega, by omega⟩, up (by omega)]
        exact ⟨_, rfl⟩
      obtain ⟨r', e2⟩ := e2
      obtain ⟨z, hz⟩ := ih (i + 1) r' (by omega)
      exact ⟨z, by rw [iter_next (e.trans e2)]; exact hz⟩
theorem value_total (s : ByteArray) (h0 : 0 < s.size) (hs : s.size ≤ 1000000) : ∃ y, m_eponymref01_value s = some y := by
  have k8 : ∀ r, ∃ y, m_eponymref01_value_K8 s r = some y := fun r => by
    unfold m_eponymref01_value_K8
    refine condTot _ ⟨_, rfl⟩ (bindTot (by rw [show (1 : Int) = ((1 : Nat) : Int) from rfl]; exact value_loop s hs (s.size - 1) 1 r (by omega)) fun z => ?_)
    cases z <;> exact ⟨_, rfl⟩
  have k6 : ∀ r, ∃ y, m_eponymref01_value_K6 s r = some y := fun r => by
    unfold m_eponymref01_value_K6
    exact bindTot (bindTot (tot2 _ _ _ _ _) fun b => by unfold m_eponymref01_value_K21; exact tot1 _ _ _) k8
  have k4 : ∀ r, ∃ y, m_eponymref01_value_K4 s r = some y := fun r => by
    unfold m_eponymref01_value_K4
    exact bindTot (bindTot (tot2 _ _ _ _ _) fun b => by unfold m_eponymref01_value_K23; exact tot1 _ _ _) k6
  unfold m_eponymref01_value
  rw [if_pos ⟨by omega, by omega⟩]
  refine bindTot (tot1 _ _ _) fun b => ?_
  unfold m_eponymref01_value_K2
  exact condTot _ ⟨_, rfl⟩ (bindTot (bindTot (tot2 _ _ _ _ _) fun b => by unfold m_eponymref01_value_K25; exact tot1 _ _ _) k4)
theorem some_total (a b n : Int) : ∃ y, m_eponymref01_some a b n = some y := by
  unfold m_eponymref01_some
  refine bindTot (tot1 _ _ _) fun s1 => ?_
  unfold m_eponymref01_some_K2
  refine bindTot (tot1 _ _ _) fun s3 => ?_
  unfold m_eponymref01_some_K4
  refine bindTot (tot1 _ _ _) fun s5 => ?_
  unfold m_eponymref01_some_K6
  refine bindTot (tot1 _ _ _) fun s7 => ?_
  unfold m_eponymref01_some_K8
  refine bindTot (tot1 _ _ _) fun s9 => ?_
  unfold m_eponymref01_some_K10
  exact tot1 _ _ _
theorem uRight_total (r : Int) : ∃ y, m_eponymref01_Right r = some y := by
  unfold m_eponymref01_Right
  exact condTot _ (condTot _ (tot1 _ _ _) ⟨_, rfl⟩) ⟨_, rfl⟩
theorem form_total (r : Int) : ∃ y, m_eponymref01_Form r = some y := by
  unfold m_eponymref01_Form
  exact condTot _ ⟨_, rfl⟩ (condTot _ ⟨_, rfl⟩ (tot1 _ _ _))
theorem ext_size (s : ByteArray) (a b : Nat) (h : a ≤ b) (hb : b ≤ s.size) : (s.extract a b).size = b - a := by
  rw [ByteArray.size_extract]; omega
theorem next_loop (s : ByteArray) (hs : s.size ≤ 100000) (at_ : Nat) (ha : at_ ≤ s.size) : ∀ (k n : Nat), n + k = 5 → 1 ≤ n → ∃ z, iter (m_eponymref01_Next_L29 s (at_ : Int)) (n : Int) = some z ∧ ∀ v, z = .inr v → v.2.2 = 0 ∧ 1 ≤ v.2.1 ∧ v.2.1 ≤ 4 := by
  intro k
  induction k with
  | zero =>
    intro n hn h1
    refine ⟨.inl (), iter_done ?_, fun v h => by cases h⟩
    unfold m_eponymref01_Next_L29 m_eponymref01_Next_K32
    rw [decide_eq_false (by omega)]; rfl
  | succ k ih =>
    intro n hn h1
    have hw : IntKind.wrap .i64 ((at_ : Int) + (n : Int)) = ((at_ + n : Nat) : Int) := by rw [w64 (by omega) (by omega)]; omega
    by_cases hle : at_ + n ≤ s.size
    · have e : ∃ (b : Bool) (y : Int), m_eponymref01_Next_L29 s (at_ : Int) (n : Int) = m_eponymref01_Next_K35 (n : Int) y b := by
        unfold m_eponymref01_Next_L29 m_eponymref01_Next_K32
        rw [decide_eq_true (show (n : Int) ≤ 4 by omega), cond_true, hw, decide_eq_true (by omega), bind_some', cond_true, if_pos ⟨by omega, by omega, by omega⟩]
        simp only [Int.toNat_natCast]
        obtain ⟨y, hy⟩ := value_total (s.extract at_ (at_ + n)) (by rw [ext_size _ _ _ (by omega) hle]; omega) (by rw [ext_size _ _ _ (by omega) hle]; omega)
        rw [hy, bind_some']
        obtain ⟨b, hb⟩ : ∃ b, (bif decide (y ≥ 0) then Option.bind (m_eponymref01_Right y) fun y36 => bif y36 then Option.bind (m_eponymref01_Form y) fun y37 =>
            if 0 ≤ (at_ : Int) ∧ (at_ : Int) ≤ ((at_ + n : Nat) : Int) ∧ ((at_ + n : Nat) : Int) ≤ ((s.size : Nat) : Int) then some (y37.toList == (s.extract at_ (at_ + n)).toList) else none
            else some false else some false : Option Bool) = some b := by
          refine condTot _ (bindTot (uRight_total y) fun y36 => condTot _ (bindTot (form_total y) fun y37 => ?_) ⟨_, rfl⟩) ⟨_, rfl⟩
          rw [if_pos ⟨by omega, by omega, by omega⟩]
          exact ⟨_, rfl⟩
        exact ⟨b, y, by rw [hb]; rfl⟩
      obtain ⟨b, y, e⟩ := e
      cases b with
      | true => exact ⟨_, iter_done (e.trans rfl), fun v h => by cases h; exact ⟨rfl, by simp only; omega, by simp only; omega⟩⟩
      | false =>
        obtain ⟨z, hz, hp⟩ := ih (n + 1) (by omega) (by omega)
        refine ⟨z, ?_, hp⟩
        rw [iter_next (s' := ((n + 1 : Nat) : Int)) (e.trans (by unfold m_eponymref01_Next_K35; rw [up (by omega)]; rfl))]
        exact hz
    · refine ⟨.inl (), iter_done ?_, fun v h => by cases h⟩
      unfold m_eponymref01_Next_L29 m_eponymref01_Next_K32
      rw [decide_eq_true (show (n : Int) ≤ 4 by omega), cond_true, hw, decide_eq_false (by omega)]; rfl
theorem pad_loop (n : Nat) (hn : n ≤ 4) : ∀ (k : Nat) (a b : ByteArray), n - a.size ≤ k → a.size = b.size → a.size ≤ 100000 → ∃ z : ByteArray × ByteArray, iter (m_eponymref01_Next_L20 (n : Int)) (a, b) = some z ∧ n ≤ z.1.size ∧ z.1.size = z.2.size ∧ z.1.size ≤ 100004 := by
  intro k
  induction k with
  | zero =>
    intro a b hk hab hs
    refine ⟨(a, b), iter_done ?_, by simp only; omega, hab, by simp only; omega⟩
    unfold m_eponymref01_Next_L20
    simp only
    rw [decide_eq_false (by omega)]; rfl
  | succ k ih =>
    intro a b hk hab hs
    by_cases hlt : a.size < n
    · have s1 : (a ++ ByteArray.mk #[128]).size = a.size + 1 := by rw [ByteArray.size_append]; rfl
      have s2 : (b ++ ByteArray.mk #[191]).size = b.size + 1 := by rw [ByteArray.size_append]; rfl
      obtain ⟨z, hz, h1, h2, h3⟩ := ih (a ++ ByteArray.mk #[128]) (b ++ ByteArray.mk #[191]) (by omega) (by omega) (by omega)
      refine ⟨z, ?_, h1, h2, h3⟩
      rw [iter_next (s' := (a ++ ByteArray.mk #[128], b ++ ByteArray.mk #[191]))]
      · exact hz
      · unfold m_eponymref01_Next_L20
        simp only
        have o : (ByteArray.mk #[128]).size = 1 := rfl
        have o' : (ByteArray.mk #[191]).size = 1 := rfl
        rw [decide_eq_true (by omega), cond_true, if_pos (by omega), if_pos (by omega)]
    · refine ⟨(a, b), iter_done ?_, by simp only; omega, hab, by simp only; omega⟩
      unfold m_eponymref01_Next_L20
      simp only
      rw [decide_eq_false (by omega)]; rfl
theorem rest_loop (s : ByteArray) (hs : s.size ≤ 100000) (at_ : Nat) (ha : at_ ≤ s.size) : ∀ (k n : Nat), 5 - n ≤ k → 1 ≤ n → n ≤ 200000 → ∃ z, iter (m_eponymref01_Next_L7 s (at_ : Int)) (n : Int) = some z ∧ ∀ v, z = .inr v → v.2.2 = 2 := by
  intro k
  induction k with
  | zero =>
    intro n hn h1 hb
    refine ⟨.inl (), iter_done ?_, fun v h => by cases h⟩
    unfold m_eponymref01_Next_L7
    rw [decide_eq_false (by omega)]; rfl
  | succ k ih =>
    intro n hn h1 hb
    by_cases h4 : n ≤ 4
    · have hsz : (s.extract at_ s.size).size = s.size - at_ := ext_size _ _ _ ha (Nat.le_refl _)
      obtain ⟨z, hz, z1, z2, z3⟩ := pad_loop n h4 4 (s.extract at_ s.size) (s.extract at_ s.size) (by omega) rfl (by omega)
      have e : ∃ b : Bool, m_eponymref01_Next_L7 s (at_ : Int) (n : Int) = (match (if b = true then Sum.inr (0, 0, 2) else .inl () : Sum Unit (Int × Int × Int)) with | .inl _ => some (.next ((n + 1 : Nat) : Int)) | .inr v => some (.done (.inr (v.1, v.2.1, v.2.2)))) := by
        unfold m_eponymref01_Next_L7
        rw [decide_eq_true (by omega), cond_true]
        simp only [Int.toNat_natCast]
        rw [hz, bind_some', up (by omega)]
        unfold m_eponymref01_Next_K12
        obtain ⟨y1, hy1⟩ := value_total z.1 (by omega) (by omega)
        obtain ⟨y2, hy2⟩ := value_total z.2 (by omega) (by omega)
        obtain ⟨b, hbb⟩ : ∃ b, (bif decide (y1 ≥ 0) then bif decide (y2 ≥ 0) then Option.bind (m_eponymref01_some y1 y2 (n : Int)) fun y17 => some y17 else some false else some false : Option Bool) = some b :=
          condTot _ (condTot _ (bindTot (some_total y1 y2 n) fun y => ⟨_, rfl⟩) ⟨_, rfl⟩) ⟨_, rfl⟩
        refine ⟨b, ?_⟩
        simp only [hy1, hy2, bind_some', hbb]
        cases b <;> rfl
      obtain ⟨b, e⟩ := e
      cases b with
      | true => exact ⟨.inr (0, 0, 2), iter_done (e.trans rfl), fun v h => by cases h; rfl⟩
      | false =>
        obtain ⟨z', hz', hp⟩ := ih (n + 1) (by omega) (by omega) (by omega)
        exact ⟨z', by rw [iter_next (e.trans rfl)]; exact hz', hp⟩
    · refine ⟨.inl (), iter_done ?_, fun v h => by cases h⟩
      unfold m_eponymref01_Next_L7
      rw [decide_eq_false (by omega)]; rfl
theorem next_total (s : ByteArray) (hs : s.size ≤ 100000) (at_ : Nat) (ha : at_ ≤ s.size) : ∃ y, m_eponymref01_Next s (at_ : Int) = some y ∧ (y.2.2 = 0 → 1 ≤ y.2.1 ∧ y.2.1 ≤ 4) := by
  unfold m_eponymref01_Next
  obtain ⟨z, hz, hp⟩ := next_loop s hs at_ ha 4 1 (by omega) (by omega)
  rw [show (1 : Int) = ((1 : Nat) : Int) from rfl, hz, bind_some']
  cases z with
  | inr v => exact ⟨_, rfl, fun _ => (hp v rfl).2⟩
  | inl u =>
    simp only
    unfold m_eponymref01_Next_K2
    have hsz : (s.extract at_ s.size).size = s.size - at_ := ext_size _ _ _ ha (Nat.le_refl _)
    rw [if_pos ⟨by omega, by omega, by omega⟩, Int.toNat_natCast, up (by omega)]
    obtain ⟨z', hz', hp'⟩ := rest_loop s hs at_ ha 4 ((s.extract at_ s.size).size + 1) (by omega) (by omega) (by omega)
    rw [hz', bind_some']
    cases z' with
    | inl u => exact ⟨_, rfl, fun h => by simp at h⟩
    | inr v => exact ⟨_, rfl, fun h => by have := hp' v rfl; simp only at h; omega⟩
theorem decode_total (s : ByteArray) (hs : s.size ≤ 100000) : ∃ y, m_eponymref01_Decode s = some y := by
  unfold m_eponymref01_Decode
  have key : ∀ (k at_ : Nat) (out : List Int), s.size - at_ ≤ k → at_ ≤ s.size + 4 → out.length ≤ at_ → ∃ z, iter (m_eponymref01_Decode_L5 s) (out, (at_ : Int)) = some z := by
    intro k
    induction k with
    | zero =>
      intro at_ out hk ha ho
      refine ⟨.inl out, iter_done ?_⟩
      unfold m_eponymref01_Decode_L5
      simp only
      rw [decide_eq_false (by omega)]; rfl
    | succ k ih =>
      intro at_ out hk ha ho
      by_cases hlt : at_ < s.size
      · obtain ⟨y, hy, hn⟩ := next_total s hs at_ (by omega)
        by_cases h0 : y.2.2 = 0
        · obtain ⟨n1, n2⟩ := hn h0
          obtain ⟨m, hm⟩ : ∃ m : Nat, y.2.1 = m := ⟨y.2.1.toNat, by omega⟩
          obtain ⟨z, hz⟩ := ih (at_ + m) (out ++ [y.1]) (by omega) (by omega) (by simp; omega)
          refine ⟨z, ?_⟩
          rw [iter_next (s' := (out ++ [y.1], ((at_ + m : Nat) : Int)))]
          · exact hz
          · unfold m_eponymref01_Decode_L5
            simp only
            rw [decide_eq_true (by omega), cond_true, hy, bind_some', h0, hm, show ((0 : Int) != 0) = false by decide, cond_false, if_pos (by omega), w64 (by omega) (by omega)]
            rfl
        · refine ⟨.inr ([], (at_ : Int), y.2.2), iter_done ?_⟩
          unfold m_eponymref01_Decode_L5
          simp only
          rw [decide_eq_true (by omega), cond_true, hy, bind_some', bne_iff_ne.2 h0]; rfl
      · refine ⟨.inl out, iter_done ?_⟩
        unfold m_eponymref01_Decode_L5
        simp only
        rw [decide_eq_false (by omega)]; rfl
  refine bindTot (key s.size 0 [] (by omega) (by omega) (by simp)) fun z => ?_
  cases z <;> exact ⟨_, rfl⟩
def setO (f : T_api_Family) (r : Int) : Option (List Int) := f.f_Sets.find? fun x => x.any fun z => z == r
def setF (f : T_api_Family) (r : Int) : List Int := (setO f r).getD []
theorem in_eq (l : List Int) (r : Int) (hl : l.length ≤ 2000) : m_eponymref19_in l r = some (l.any fun z => z == r) := by
  unfold m_eponymref19_in
  rw [iter_scan l.length (fun i => if (l.getD i 0 == r) = true then some true else none) (fun i hi _ => ?_) (fun _ => ?_)]
  · rw [← any_scan' l 0 fun z => z == r]
    cases firstSome (fun i => if (l.getD i 0 == r) = true then some true else none) l.length 0 <;> rfl
  · unfold m_eponymref19_in_L5
    rw [decide_eq_true (by omega), cond_true, if_pos ⟨by omega, by omega⟩, Int.toNat_natCast, up (by omega)]
    cases (l.getD i 0 == r) <;> rfl
  · unfold m_eponymref19_in_L5
    rw [decide_eq_false (by omega)]; rfl
structure Small (f : T_api_Family) : Prop where
  sets : f.f_Sets.length ≤ 20
  each : ∀ x ∈ f.f_Sets, x.length ≤ 20
theorem vfind_eq (f : T_api_Family) (hs : Small f) (hr : ∀ x ∈ f.f_Sets, risingL x) (r : Int) : m_variants_find f r = some (setF f r) := by
  unfold m_variants_find setF setO
  have hset := hs.sets
  have key : ∀ (k i : Nat), i + k = f.f_Sets.length → iter (m_variants_find_L5 f r) (i : Int) = some (match (f.f_Sets.drop i).find? (fun x => x.any fun z => z == r) with | some x => .inr x | none => .inl ()) := by
    intro k
    induction k with
    | zero =>
      intro i hi
      rw [List.drop_of_length_le (by omega)]
      refine iter_done ?_
      unfold m_variants_find_L5
      rw [decide_eq_false (by omega)]; rfl
    | succ k ih =>
      intro i hi
      have hm := getD_mem (d := ([] : List Int)) (show i < f.f_Sets.length by omega)
      have hx := hs.each _ hm
      obtain ⟨y, hy⟩ := bs_eq (f.f_Sets.getD i []) r (by omega) (hr _ hm)
      rw [drop_getD (d := ([] : List Int)) (show i < f.f_Sets.length by omega), List.find?_cons]
      cases hin : (f.f_Sets.getD i []).any fun z => z == r with
      | true =>
        refine iter_done ?_
        unfold m_variants_find_L5
        rw [decide_eq_true (by omega), cond_true, if_pos ⟨by omega, by omega⟩, Int.toNat_natCast, hy, bind_some', hin, cond_true]
      | false =>
        simp only
        rw [← ih (i + 1) (by omega)]
        refine iter_next ?_
        unfold m_variants_find_L5
        rw [decide_eq_true (by omega), cond_true, if_pos ⟨by omega, by omega⟩, Int.toNat_natCast, hy, bind_some', hin, cond_false, up (by omega)]
  rw [show (0 : Int) = ((0 : Nat) : Int) from rfl, key f.f_Sets.length 0 (by omega), List.drop_zero, bind_some']
  cases f.f_Sets.find? (fun x => x.any fun z => z == r) <;> rfl
theorem set_len {f : T_api_Family} (hs : Small f) (r : Int) : (setF f r).length ≤ 20 := by
  unfold setF
  cases h : setO f r with
  | none => exact Nat.zero_le _
  | some x => exact hs.each x (List.mem_of_find?_eq_some h)
/-! ### Keys -/
def keyR (f : T_api_Family) (r : Int) : Int := if 0 < (setF f r).length then (setF f r).getD 0 0 else r
theorem key_eq (f : T_api_Family) (hs : Small f) (hr : ∀ x ∈ f.f_Sets, risingL x) (l : List Int) (hl : l.length ≤ 1000) : m_variants_Key f l = some (l.map (keyR f)) := by
  unfold m_variants_Key
  have key : ∀ (k i : Nat), i + k = l.length → iter (m_variants_Key_L5 f l) ((l.take i).map (keyR f) ++ l.drop i, (i : Int)) = some (l.map (keyR f)) := by
    intro k
    induction k with
    | zero =>
      intro i hi
      obtain rfl : i = l.length := by omega
      refine iter_done ?_
      unfold m_variants_Key_L5
      simp only
      rw [decide_eq_false (by omega), List.take_length, List.drop_length, List.append_nil]; rfl
    | succ k ih =>
      intro i hi
      have hil : i < l.length := by omega
      rw [← ih (i + 1) (by omega)]
      refine iter_next ?_
      have hlen : ((l.take i).map (keyR f)).length = i := by simp; omega
      have hg : ((l.take i).map (keyR f) ++ l.drop i).getD i 0 = l.getD i 0 := by
        rw [List.getD_eq_getElem?_getD, List.getElem?_append_right (by omega), hlen, Nat.sub_self, List.getElem?_drop, Nat.add_zero, ← List.getD_eq_getElem?_getD]
      have e : ((l.take i).map (keyR f) ++ l.drop i).set i (keyR f (l.getD i 0)) = (l.take (i + 1)).map (keyR f) ++ l.drop (i + 1) := by
        rw [List.set_append_right _ _ (by omega), hlen, Nat.sub_self, drop_getD (d := (0 : Int)) hil, List.set_cons_zero, List.take_succ_eq_append_getElem hil, List.map_append, List.map_cons, List.map_nil, List.append_assoc]
        have e1 : l.getD i 0 = l[i] := by simp [List.getD_eq_getElem?_getD, hil]
        rw [e1]; rfl
      have e0 : keyR f (l.getD i 0) = l.getD i 0 → (l.take i).map (keyR f) ++ l.drop i = (l.take (i + 1)).map (keyR f) ++ l.drop (i + 1) := fun h => by
        rw [← e, h, drop_getD (d := (0 : Int)) hil, List.set_append_right _ _ (by omega), hlen, Nat.sub_self, List.set_cons_zero]
      have hll : ((l.take i).map (keyR f) ++ l.drop i).length = l.length := by simp; omega
      unfold m_variants_Key_L5
      simp only [Int.toNat_natCast]
      rw [decide_eq_true (by omega), cond_true, if_pos ⟨by omega, by omega⟩, hg, vfind_eq f hs hr, bind_some', up (by omega)]
      by_cases h0 : 0 < (setF f (l.getD i 0)).length
      · have hk : keyR f (l.getD i 0) = (setF f (l.getD i 0)).getD 0 0 := by unfold keyR; rw [if_pos h0]
        rw [decide_eq_true (by omega), cond_true, if_pos ⟨by omega, by omega⟩, if_pos ⟨by omega, by omega⟩, ← hk, e]
      · have hk : keyR f (l.getD i 0) = l.getD i 0 := by unfold keyR; rw [if_neg h0]
        rw [decide_eq_false (by omega), cond_false, e0 hk]
  have := key l.length 0 (by omega)
  simp only [List.take_zero, List.map_nil, List.nil_append, List.drop_zero] at this
  have hm : mkOk 4 ((l.length : Nat) : Int) := ⟨by omega, by omega, by omega⟩
  rw [if_pos hm, Nat.min_self, List.take_length, List.drop_of_length_le (by simp), List.append_nil, show (0 : Int) = ((0 : Nat) : Int) from rfl, this]; rfl
/-! ### Counts -/
def cntF (f : T_api_Family) : List Int → Int → Int
  | [], n => n
  | r :: l, n => cntF f l (min (n * max ((setF f r).length : Int) 1) 1073741824)
theorem vcount_eq (f : T_api_Family) (hs : Small f) (hr : ∀ x ∈ f.f_Sets, risingL x) (l : List Int) (hl : l.length ≤ 1000) : m_variants_Count f l = some (cntF f l 1) := by
  have key : ∀ (k i : Nat) (n : Int), i + k = l.length → 0 ≤ n → n ≤ 1073741824 → iter (m_variants_Count_L5 f l) (n, (i : Int)) = some (cntF f (l.drop i) n) := by
    intro k
    induction k with
    | zero =>
      intro i n hi h0 h1
      rw [List.drop_of_length_le (by omega)]
      refine iter_done ?_
      unfold m_variants_Count_L5
      simp only
      rw [decide_eq_false (by omega)]; rfl
    | succ k ih =>
      intro i n hi h0 h1
      have hx := set_len hs (l.getD i 0)
      obtain ⟨q, hq⟩ : ∃ q : Nat, (setF f (l.getD i 0)).length = q := ⟨_, rfl⟩
      rw [hq] at hx
      rw [drop_getD (d := (0 : Int)) (show i < l.length by omega), cntF, hq]
      have hm : 0 ≤ n * max (q : Int) 1 ∧ n * max (q : Int) 1 ≤ 21474836480 := by
        have : max (q : Int) 1 ≤ 20 := by omega
        have h3 : (0 : Int) ≤ max (q : Int) 1 := by omega
        exact ⟨Int.mul_nonneg h0 h3, Int.le_trans (Int.mul_le_mul h1 this h3 (by decide)) (by decide)⟩
      rw [← ih (i + 1) (min (n * max (q : Int) 1) 1073741824) (by omega) (by omega) (by omega)]
      refine iter_next ?_
      unfold m_variants_Count_L5
      simp only [Int.toNat_natCast]
      rw [decide_eq_true (by omega), cond_true, if_pos ⟨by omega, by omega⟩, vfind_eq f hs hr, bind_some', hq, up (by omega), w64 (by omega) (by omega)]
  have := key l.length 0 1 (by omega) (by decide) (by decide)
  rw [List.drop_zero] at this
  unfold m_variants_Count
  rw [show (0 : Int) = ((0 : Nat) : Int) from rfl, this]
  rfl
/-- The digits of a number, the fastest first, by the wheels' sizes. -/
def digR : List Nat → Nat → List Nat
  | [], _ => []
  | n :: ns, k => (k % n) :: digR ns (k / n)
def prodL (ns : List Nat) : Nat := ns.foldr (· * ·) 1
/-- One step of the odometer, the fastest place first; none: all have come. -/
def nextR : List Nat → List Nat → Option (List Nat)
  | n :: ns, d :: ds => if d + 1 = n then (nextR ns ds).map (0 :: ·) else some ((d + 1) :: ds)
  | _, _ => none
theorem digR_len : ∀ (ns : List Nat) (k : Nat), (digR ns k).length = ns.length
  | [], _ => rfl
  | n :: ns, k => by rw [digR, List.length_cons, List.length_cons, digR_len ns]
theorem digR_zero : ∀ (ns : List Nat), digR ns 0 = List.replicate ns.length 0
  | [] => rfl
  | n :: ns => by rw [digR, Nat.zero_mod, Nat.zero_div, digR_zero ns]; rfl
theorem prodL_pos : ∀ (ns : List Nat), (∀ n ∈ ns, 0 < n) → 0 < prodL ns
  | [], _ => Nat.one_pos
  | n :: ns, h => Nat.mul_pos (h n (by simp)) (prodL_pos ns fun m hm => h m (by simp [hm]))
theorem next_digR : ∀ (ns : List Nat) (k : Nat), (∀ n ∈ ns, 0 < n) → k < prodL ns → nextR ns (digR ns k) = if k + 1 < prodL ns then some (digR ns (k + 1)) else none
  | [], k, _, hk => by
    have : k < 1 := hk
    rw [nextR, if_neg]
    · show ¬ k + 1 < 1; omega
    · intro _ _ _ _ h; cases h
  | n :: ns, k, h, hk => by
    have hn := h n (by simp)
    have hk : k < n * prodL ns := hk
    have hp : prodL (n :: ns) = n * prodL ns := rfl
    have hq : k / n < prodL ns := Nat.div_lt_of_lt_mul hk
    have ih := next_digR ns (k / n) (fun m hm => h m (by simp [hm])) hq
    have hdm := Nat.div_add_mod k n
    have hmod := Nat.mod_lt k hn
    rw [digR, nextR, hp]
    by_cases hr : k % n + 1 = n
    · have e1 : (k + 1) % n = 0 := by
        have : k + 1 = n * (k / n + 1) := by rw [Nat.mul_add, Nat.mul_one]; omega
        rw [this]; exact Nat.mul_mod_right _ _
      have e2 : (k + 1) / n = k / n + 1 := by
        have : k + 1 = n * (k / n + 1) := by rw [Nat.mul_add, Nat.mul_one]; omega
        rw [this, Nat.mul_div_cancel_left _ hn]
      have hlt : k + 1 < n * prodL ns ↔ k / n + 1 < prodL ns := by
        have : k + 1 = n * (k / n + 1) := by rw [Nat.mul_add, Nat.mul_one]; omega
        rw [this]; exact Nat.mul_lt_mul_left hn
      rw [if_pos hr, ih]
      by_cases hl : k / n + 1 < prodL ns
      · rw [if_pos hl, if_pos (hlt.2 hl), digR, e1, e2]; rfl
      · rw [if_neg hl, if_neg (fun h => hl (hlt.1 h))]; rfl
    · have e1 : (k + 1) % n = k % n + 1 := by
        have h1 : k + 1 = (k % n + 1) + n * (k / n) := by omega
        rw [h1, Nat.add_mul_mod_self_left, Nat.mod_eq_of_lt (by omega)]
      have e2 : (k + 1) / n = k / n := by
        have h1 : k + 1 = (k % n + 1) + n * (k / n) := by omega
        rw [h1, Nat.add_mul_div_left _ _ hn, Nat.div_eq_of_lt (by omega), Nat.zero_add]
      have hlt : k + 1 < n * prodL ns := by
        have h2 : n * (k / n + 1) ≤ n * prodL ns := Nat.mul_le_mul_left n hq
        rw [Nat.mul_add, Nat.mul_one] at h2
        omega
      rw [if_neg hr, if_pos hlt, digR, e1, e2]
theorem scan_from {V : Type} {body : Int → Option (Stp Int (Sum Unit V))} (a n : Nat) (f : Nat → Option V)
    (hstep : ∀ i, a ≤ i → i < n → body (i : Int) = some (match f i with | none => .next ((i + 1 : Nat) : Int) | some v => .done (.inr v)))
    (hend : body (n : Int) = some (.done (.inl ()))) : ∀ (k i : Nat), a ≤ i → i + k = n → iter body (i : Int) = some (scanX (firstSome f k i)) := by
  intro k
  induction k with
  | zero =>
    intro i ha hi
    have e : i = n := by omega
    rw [e, iter_done hend]; rfl
  | succ k ih =>
    intro i ha hi
    have h1 := hstep i ha (by omega)
    rw [firstSome]
    cases hf : f i with
    | none => rw [hf] at h1; rw [iter_next h1]; exact ih (i + 1) (by omega) (by omega)
    | some v => rw [hf] at h1; rw [iter_done h1]; rfl
noncomputable def rgt (r : Int) : Bool := (m_eponymref01_Right r).getD false
theorem rgt_eq (r : Int) : m_eponymref01_Right r = some (rgt r) := by
  obtain ⟨y, hy⟩ := uRight_total r
  unfold rgt; rw [hy]; rfl
def okSet (x : List Int) : Prop := 2 ≤ x.length ∧ risingL x
theorem rising_of_steps {l : List Int} (step : ∀ i, 0 < i → i < l.length → l.getD (i - 1) 0 < l.getD i 0) : risingL l := by
  intro i j hij hj
  obtain ⟨d, rfl⟩ : ∃ d, j = i + 1 + d := ⟨j - i - 1, by omega⟩
  clear hij
  induction d with
  | zero => exact step (i + 1) (by omega) hj
  | succ d ih =>
    have h1 := ih (by omega)
    have h2 := step (i + 1 + d + 1) (by omega) hj
    rw [show i + 1 + d + 1 - 1 = i + 1 + d by omega] at h2
    exact Int.lt_trans h1 h2
theorem set_ok (f : T_api_Family) (hs : Small f) (i : Nat) (hi : i < f.f_Sets.length) (hp : ∀ j, j < i → 2 ≤ (f.f_Sets.getD j []).length) :
    ∃ z, m_eponymref19_Check_L10 f (i : Int) = some z ∧ ((z = .next ((i + 1 : Nat) : Int) ∧ okSet (f.f_Sets.getD i [])) ∨ ∃ v, z = .done (.inr v) ∧ (v.2 = 0 → False)) := by
  have hset := hs.sets
  have hx := hs.each _ (getD_mem (d := ([] : List Int)) hi)
  have hc45 : iter (m_eponymref19_Check_L45 f (i : Int)) 0 = some (scanX (firstSome (fun k => if rgt ((f.f_Sets.getD i []).getD k 0) = true then none else some ((i : Int), (4 : Int))) (f.f_Sets.getD i []).length 0)) := by
    refine scan_from 0 (f.f_Sets.getD i []).length _ (fun k _ hk => ?_) ?_ (f.f_Sets.getD i []).length 0 (Nat.zero_le _) (by omega)
    · unfold m_eponymref19_Check_L45
      simp only [Int.toNat_natCast]
      rw [decide_eq_true (by omega), cond_true, if_pos ⟨by omega, by omega⟩, rgt_eq, bind_some', up (by omega)]
      cases rgt ((f.f_Sets.getD i []).getD k 0) <;> rfl
    · unfold m_eponymref19_Check_L45
      simp only [Int.toNat_natCast]
      rw [decide_eq_false (by omega)]; rfl
  unfold m_eponymref19_Check_L10
  rw [decide_eq_true (by omega), cond_true, if_pos ⟨by omega, by omega⟩]
  simp only [Int.toNat_natCast]
  rw [hc45, up (by omega)]
  by_cases h2 : (f.f_Sets.getD i []).length < 2
  · rw [decide_eq_true (by omega)]
    exact ⟨_, rfl, .inr ⟨_, rfl, fun h => by simp at h⟩⟩
  · rw [decide_eq_false (by omega), cond_false, bind_some']
    cases h4 : firstSome (fun k => if rgt ((f.f_Sets.getD i []).getD k 0) = true then none else some ((i : Int), (4 : Int))) (f.f_Sets.getD i []).length 0 with
    | some v =>
      obtain ⟨j, _, _, hj, _⟩ := firstSome_some h4
      split at hj
      · cases hj
      · cases hj; exact ⟨_, rfl, .inr ⟨_, rfl, fun h => by simp at h⟩⟩
    | none =>
      simp only [scanX]
      unfold m_eponymref19_Check_K15
      have h38 : iter (m_eponymref19_Check_L38 f (i : Int)) 1 = some (scanX (firstSome (fun k => if (f.f_Sets.getD i []).getD k 0 ≤ (f.f_Sets.getD i []).getD (k - 1) 0 then some ((i : Int), (6 : Int)) else none) ((f.f_Sets.getD i []).length - 1) 1)) := by
        refine scan_from 1 (f.f_Sets.getD i []).length _ (fun k k1 hk => ?_) ?_ ((f.f_Sets.getD i []).length - 1) 1 (Nat.le_refl _) (by omega)
        · unfold m_eponymref19_Check_L38
          simp only [Int.toNat_natCast]
          rw [decide_eq_true (by omega), cond_true, if_pos ⟨by omega, by omega⟩, down (by omega) (by omega), if_pos ⟨by omega, by omega⟩, Int.toNat_natCast, up (by omega)]
          by_cases h : (f.f_Sets.getD i []).getD k 0 ≤ (f.f_Sets.getD i []).getD (k - 1) 0
          · rw [decide_eq_true h, if_pos h]; rfl
          · rw [decide_eq_false h, if_neg h]; rfl
        · unfold m_eponymref19_Check_L38
          simp only [Int.toNat_natCast]
          rw [decide_eq_false (by omega)]; rfl
      rw [h38, bind_some']
      cases h6 : firstSome (fun k => if (f.f_Sets.getD i []).getD k 0 ≤ (f.f_Sets.getD i []).getD (k - 1) 0 then some ((i : Int), (6 : Int)) else none) ((f.f_Sets.getD i []).length - 1) 1 with
      | some v =>
        obtain ⟨j, _, _, hj, _⟩ := firstSome_some h6
        split at hj
        · cases hj; exact ⟨_, rfl, .inr ⟨_, rfl, fun h => by simp at h⟩⟩
        · cases hj
      | none =>
        have hrise : risingL (f.f_Sets.getD i []) := rising_of_steps fun k k0 hk => by
          have := firstSome_none.1 h6 k (by omega) (by omega)
          split at this
          · cases this
          · omega
        simp only [scanX]
        unfold m_eponymref19_Check_K17
        obtain ⟨b, hb⟩ : ∃ b, (bif decide ((i : Int) > 0) then
            if 0 ≤ (0 : Int) ∧ (0 : Int) < (((f.f_Sets.getD ((i : Int).toNat) []).length : Nat) : Int) then
              if 0 ≤ (IntKind.wrap .i64 ((i : Int) - (1 : Int))) ∧ (IntKind.wrap .i64 ((i : Int) - (1 : Int))) < ((f.f_Sets.length : Nat) : Int) then
                if 0 ≤ (0 : Int) ∧ (0 : Int) < (((f.f_Sets.getD ((IntKind.wrap .i64 ((i : Int) - (1 : Int))).toNat) []).length : Nat) : Int) then
                  some (decide (((f.f_Sets.getD ((i : Int).toNat) []).getD 0 0) ≤ ((f.f_Sets.getD ((IntKind.wrap .i64 ((i : Int) - (1 : Int))).toNat) []).getD 0 0)))
                else none
              else none
            else none
          else some false : Option Bool) = some b := by
          simp only [Int.toNat_natCast]
          by_cases i0 : 0 < i
          · have := hp (i - 1) (by omega)
            rw [decide_eq_true (by omega), cond_true, if_pos ⟨by omega, by omega⟩, down i0 (by omega), if_pos ⟨by omega, by omega⟩, Int.toNat_natCast, if_pos ⟨by omega, by omega⟩]
            exact ⟨_, rfl⟩
          · rw [decide_eq_false (by omega)]; exact ⟨_, rfl⟩
        rw [hb, bind_some']
        unfold m_eponymref19_Check_K19
        cases b with
        | true => exact ⟨_, rfl, .inr ⟨_, rfl, fun h => by simp at h⟩⟩
        | false =>
          have h28 : ∀ j, j < i → iter (m_eponymref19_Check_L28 f (i : Int) (j : Int)) 0 = some (scanX (firstSome (fun k => if ((f.f_Sets.getD j []).any fun z => z == (f.f_Sets.getD i []).getD k 0) = true then some ((i : Int), (7 : Int)) else none) (f.f_Sets.getD i []).length 0)) := fun j hj => by
            have hxj := hs.each _ (getD_mem (d := ([] : List Int)) (show j < f.f_Sets.length by omega))
            refine scan_from 0 (f.f_Sets.getD i []).length _ (fun k _ hk => ?_) ?_ (f.f_Sets.getD i []).length 0 (Nat.zero_le _) (by omega)
            · unfold m_eponymref19_Check_L28
              simp only [Int.toNat_natCast]
              rw [decide_eq_true (by omega), cond_true, if_pos ⟨by omega, by omega⟩, if_pos ⟨by omega, by omega⟩, in_eq _ _ (by omega), bind_some', up (by omega)]
              cases ((f.f_Sets.getD j []).any fun z => z == (f.f_Sets.getD i []).getD k 0) <;> rfl
            · unfold m_eponymref19_Check_L28
              simp only [Int.toNat_natCast]
              rw [decide_eq_false (by omega)]; rfl
          have h22 : iter (m_eponymref19_Check_L22 f (i : Int)) 0 = some (scanX (firstSome (fun j => firstSome (fun k => if ((f.f_Sets.getD j []).any fun z => z == (f.f_Sets.getD i []).getD k 0) = true then some ((i : Int), (7 : Int)) else none) (f.f_Sets.getD i []).length 0) i 0)) := by
            refine scan_from 0 i _ (fun j _ hj => ?_) ?_ i 0 (Nat.zero_le _) (by omega)
            · unfold m_eponymref19_Check_L22
              rw [decide_eq_true (by omega), cond_true, h28 j hj, bind_some', up (by omega)]
              cases firstSome (fun k => if ((f.f_Sets.getD j []).any fun z => z == (f.f_Sets.getD i []).getD k 0) = true then some ((i : Int), (7 : Int)) else none) (f.f_Sets.getD i []).length 0 <;> rfl
            · unfold m_eponymref19_Check_L22
              rw [decide_eq_false (by omega)]; rfl
          rw [cond_false, h22, bind_some']
          cases h7 : firstSome (fun j => firstSome (fun k => if ((f.f_Sets.getD j []).any fun z => z == (f.f_Sets.getD i []).getD k 0) = true then some ((i : Int), (7 : Int)) else none) (f.f_Sets.getD i []).length 0) i 0 with
          | none => exact ⟨_, rfl, .inl ⟨rfl, by omega, hrise⟩⟩
          | some v =>
            obtain ⟨j, _, _, hj, _⟩ := firstSome_some h7
            obtain ⟨k, _, _, hk, _⟩ := firstSome_some hj
            split at hk
            · cases hk; exact ⟨_, rfl, .inr ⟨_, rfl, fun h => by simp at h⟩⟩
            · cases hk
theorem sets_loop (f : T_api_Family) (hs : Small f) : ∃ z, iter (m_eponymref19_Check_L10 f) 0 = some z ∧ ((z = .inl () ∧ ∀ x ∈ f.f_Sets, risingL x) ∨ ∃ v, z = .inr v ∧ v.2 ≠ 0) := by
  have hset := hs.sets
  have key : ∀ (k i : Nat), i + k = f.f_Sets.length → (∀ j, j < i → okSet (f.f_Sets.getD j [])) → ∃ z, iter (m_eponymref19_Check_L10 f) (i : Int) = some z ∧ ((z = .inl () ∧ ∀ j, j < f.f_Sets.length → okSet (f.f_Sets.getD j [])) ∨ ∃ v, z = .inr v ∧ v.2 ≠ 0) := by
    intro k
    induction k with
    | zero =>
      intro i hi hp
      obtain rfl : i = f.f_Sets.length := by omega
      refine ⟨.inl (), iter_done ?_, .inl ⟨rfl, hp⟩⟩
      unfold m_eponymref19_Check_L10
      rw [decide_eq_false (by omega)]; rfl
    | succ k ih =>
      intro i hi hp
      obtain ⟨z, hz, ⟨rfl, ho⟩ | ⟨v, rfl, hv⟩⟩ := set_ok f hs i (by omega) fun j hj => (hp j hj).1
      · obtain ⟨z', hz', h'⟩ := ih (i + 1) (by omega) fun j hj => by
          by_cases e : j = i
          · subst e; exact ho
          · exact hp j (by omega)
        exact ⟨z', by rw [iter_next hz]; exact hz', h'⟩
      · exact ⟨_, iter_done hz, .inr ⟨v, rfl, hv⟩⟩
  obtain ⟨z, hz, h⟩ := key f.f_Sets.length 0 (by omega) fun j hj => absurd hj (Nat.not_lt_zero _)
  refine ⟨z, hz, ?_⟩
  rcases h with ⟨h1, h2⟩ | h
  · refine .inl ⟨h1, fun x hx => ?_⟩
    obtain ⟨i, hi, rfl⟩ := List.getElem_of_mem hx
    have := (h2 i hi).2
    simpa [List.getD_eq_getElem?_getD, hi] using this
  · exact .inr h
theorem check19 (f : T_api_Family) (hs : Small f) (hn : f.f_Name.size ≤ 100) : ∃ y, m_eponymref19_Check f = some y ∧ (y.2 = 0 → ∀ x ∈ f.f_Sets, risingL x) := by
  have hset := hs.sets
  obtain ⟨d, hd⟩ := decode_total f.f_Name (by omega)
  unfold m_eponymref19_Check
  rw [hd, bind_some']
  obtain ⟨b, hb⟩ : ∃ b, (bif (((f.f_Name.size : Nat) : Int) == (0 : Int)) then some true else bif (decide (((f.f_Name.size : Nat) : Int) > (63 : Int))) then some true else some (d.2.2 != (0 : Int)) : Option Bool) = some b := condTot _ ⟨_, rfl⟩ (tot1 _ _ _)
  rw [hb, bind_some']
  unfold m_eponymref19_Check_K3
  cases b with
  | true => exact ⟨_, rfl, fun h => by simp at h⟩
  | false =>
    have sum : ∀ (k i : Nat) (n : Int), i + k = f.f_Sets.length → ∃ z, iter (m_eponymref19_Check_L57 f) (n, (i : Int)) = some z := by
      intro k
      induction k with
      | zero =>
        intro i n hi
        refine ⟨n, iter_done ?_⟩
        unfold m_eponymref19_Check_L57
        simp only
        rw [decide_eq_false (by omega)]; rfl
      | succ k ih =>
        intro i n hi
        obtain ⟨z, hz⟩ := ih (i + 1) (IntKind.wrap .i64 (n + (((f.f_Sets.getD i []).length : Nat) : Int))) (by omega)
        refine ⟨z, ?_⟩
        rw [iter_next (s' := (IntKind.wrap .i64 (n + (((f.f_Sets.getD i []).length : Nat) : Int)), ((i + 1 : Nat) : Int)))]
        · exact hz
        · unfold m_eponymref19_Check_L57
          simp only [Int.toNat_natCast]
          rw [decide_eq_true (by omega), cond_true, if_pos ⟨by omega, by omega⟩, up (by omega)]
    obtain ⟨n, hnn⟩ := sum f.f_Sets.length 0 0 (by omega)
    rw [cond_false, show ((0 : Int), (0 : Int)) = ((0 : Int), ((0 : Nat) : Int)) from rfl, hnn, bind_some']
    unfold m_eponymref19_Check_K5
    by_cases h2 : n > 2000
    · rw [decide_eq_true h2]; exact ⟨_, rfl, fun h => by simp at h⟩
    · rw [decide_eq_false h2, cond_false]
      obtain ⟨z, hz, ⟨rfl, hr⟩ | ⟨v, rfl, hv⟩⟩ := sets_loop f hs
      · rw [hz, bind_some']; exact ⟨_, rfl, fun _ => hr⟩
      · rw [hz, bind_some']; exact ⟨_, rfl, fun h => absurd h hv⟩

theorem same_eq (a b : List Int) (ha : a.length < 4611686018427387904) : m_eponymlaw01_Same a b = some (decide (a = b)) := by
  unfold m_eponymlaw01_Same
  by_cases hl : a.length = b.length
  · rw [show (((a.length : Nat) : Int) != ((b.length : Nat) : Int)) = false by rw [hl]; simp, cond_false]
    rw [iter_scan a.length (fun i => if a.getD i 0 ≠ b.getD i 0 then some false else none) (fun i hi _ => ?_) (fun _ => ?_)]
    · cases hf : firstSome (fun i => if a.getD i 0 ≠ b.getD i 0 then some false else none) a.length 0 with
      | none =>
        have h := firstSome_none.1 hf
        have : a = b := by
          refine List.ext_getElem hl fun i h1 h2 => ?_
          have := h i (Nat.zero_le _) (by omega)
          split at this
          · cases this
          · rename_i hn
            have hn := Decidable.not_not.1 hn
            simpa [List.getD_eq_getElem?_getD, h1, h2] using hn
        rw [decide_eq_true this]; rfl
      | some v =>
        obtain ⟨j, _, _, hj, _⟩ := firstSome_some hf
        split at hj
        · rename_i hne
          cases hj
          rw [decide_eq_false (fun e => hne (by rw [e]))]; rfl
        · cases hj
    · unfold m_eponymlaw01_Same_L5
      rw [decide_eq_true (by omega), cond_true, if_pos ⟨by omega, by omega⟩, if_pos ⟨by omega, by omega⟩, Int.toNat_natCast, up (by omega)]
      by_cases h : a.getD i 0 = b.getD i 0
      · rw [if_neg (fun h' => h' h), show (a.getD i 0 != b.getD i 0) = false by rw [h]; simp]; rfl
      · rw [if_pos h, show (a.getD i 0 != b.getD i 0) = true from bne_iff_ne.2 h]; rfl
    · unfold m_eponymlaw01_Same_L5
      rw [decide_eq_false (by omega)]; rfl
  · rw [show (((a.length : Nat) : Int) != ((b.length : Nat) : Int)) = true by rw [bne_iff_ne]; omega, cond_true, decide_eq_false (fun e => hl (by rw [e]))]
theorem equal_eq (a b : List Int) (ha : a.length < 4611686018427387904) : m_slices_Equal_rune_rune a b = some (decide (a = b)) := by
  unfold m_slices_Equal_rune_rune
  by_cases hl : a.length = b.length
  · rw [show (((a.length : Nat) : Int) != ((b.length : Nat) : Int)) = false by rw [hl]; simp, cond_false]
    rw [iter_scan a.length (fun i => if a.getD i 0 ≠ b.getD i 0 then some false else none) (fun i hi _ => ?_) (fun _ => ?_)]
    · cases hf : firstSome (fun i => if a.getD i 0 ≠ b.getD i 0 then some false else none) a.length 0 with
      | none =>
        have h := firstSome_none.1 hf
        have : a = b := by
          refine List.ext_getElem hl fun i h1 h2 => ?_
          have := h i (Nat.zero_le _) (by omega)
          split at this
          · cases this
          · rename_i hn
            have hn := Decidable.not_not.1 hn
            simpa [List.getD_eq_getElem?_getD, h1, h2] using hn
        rw [decide_eq_true this]; rfl
      | some v =>
        obtain ⟨j, _, _, hj, _⟩ := firstSome_some hf
        split at hj
        · rename_i hne
          cases hj
          rw [decide_eq_false (fun e => hne (by rw [e]))]; rfl
        · cases hj
    · unfold m_slices_Equal_rune_rune_L5
      rw [decide_eq_true (by omega), cond_true, if_pos ⟨by omega, by omega⟩, if_pos ⟨by omega, by omega⟩, Int.toNat_natCast, up (by omega)]
      by_cases h : a.getD i 0 = b.getD i 0
      · rw [if_neg (fun h' => h' h), show (a.getD i 0 != b.getD i 0) = false by rw [h]; simp]; rfl
      · rw [if_pos h, show (a.getD i 0 != b.getD i 0) = true from bne_iff_ne.2 h]; rfl
    · unfold m_slices_Equal_rune_rune_L5
      rw [decide_eq_false (by omega)]; rfl
  · rw [show (((a.length : Nat) : Int) != ((b.length : Nat) : Int)) = true by rw [bne_iff_ne]; omega, cond_true, decide_eq_false (fun e => hl (by rw [e]))]
theorem great19 (f : T_api_Family) : ∃ b, m_eponymlaw19_Great f = some b ∧ (b = false → Small f ∧ f.f_Name.size ≤ 100) := by
  unfold m_eponymlaw19_Great
  by_cases h1 : 20 < f.f_Sets.length
  · rw [decide_eq_true (show ((f.f_Sets.length : Nat) : Int) > 20 by omega)]
    exact ⟨true, rfl, fun h => by cases h⟩
  · rw [decide_eq_false (show ¬ ((f.f_Sets.length : Nat) : Int) > 20 by omega), cond_false]
    by_cases h2 : 100 < f.f_Name.size
    · rw [decide_eq_true (show ((f.f_Name.size : Nat) : Int) > 100 by omega)]
      exact ⟨true, rfl, fun h => by cases h⟩
    · rw [decide_eq_false (show ¬ ((f.f_Name.size : Nat) : Int) > 100 by omega), bind_some']
      unfold m_eponymlaw19_Great_K2
      rw [cond_false, iter_scan f.f_Sets.length (fun i => if 20 < (f.f_Sets.getD i []).length then some true else none) (fun i hi _ => ?_) (fun _ => ?_)]
      · cases hf : firstSome (fun i => if 20 < (f.f_Sets.getD i []).length then some true else none) f.f_Sets.length 0 with
        | some v => exact ⟨v, rfl, fun h => by
            obtain ⟨j, _, _, hj, _⟩ := firstSome_some hf
            split at hj
            · cases hj; cases h
            · cases hj⟩
        | none => exact ⟨false, rfl, fun _ => ⟨⟨by omega, fun x hx => by
            obtain ⟨i, hi, rfl⟩ := List.getElem_of_mem hx
            have := firstSome_none.1 hf i (Nat.zero_le _) (by omega)
            have e : f.f_Sets.getD i [] = f.f_Sets[i] := by simp [List.getD_eq_getElem?_getD, hi]
            split at this
            · cases this
            · rw [e] at *; omega⟩, by omega⟩⟩
      · unfold m_eponymlaw19_Great_L7
        rw [decide_eq_true (by omega), cond_true, if_pos ⟨by omega, by omega⟩, Int.toNat_natCast, up (by omega)]
        by_cases h : 20 < (f.f_Sets.getD i []).length
        · rw [if_pos h, decide_eq_true (by omega)]; rfl
        · rw [if_neg h, decide_eq_false (by omega)]; rfl
      · unfold m_eponymlaw19_Great_L7
        rw [decide_eq_false (by omega)]; rfl
def demo19 : T_api_Family := { f_Name := ByteArray.mk #[120], f_Sets := [[97, 224]] }
theorem demo19_small : Small demo19 := ⟨by decide, fun x hx => by
  have : x = [97, 224] := by simpa [demo19] using hx
  subst this; decide⟩
theorem demo19_rise : ∀ x ∈ demo19.f_Sets, risingL x := fun x hx => by
  have : x = [97, 224] := by simpa [demo19] using hx
  subst this
  intro i j hij hj
  have : i = 0 := by simp at hj; omega
  have : j = 1 := by simp at hj; omega
  subst_vars; decide
theorem awake19 (hAll : m_variants_All demo19 [97, 98] 9 = some [[97, 98], [224, 98]]) : m_eponymlaw19_awake = some true := by
  have e : m_eponymlaw19_awake = Option.bind (m_variants_All demo19 [97, 98] 9) fun y1 => bif (((y1.length : Nat) : Int) == (2 : Int)) then
      if 0 ≤ (1 : Int) ∧ (1 : Int) < ((y1.length : Nat) : Int) then Option.bind (m_eponymlaw01_Same (y1.getD 1 []) [224, 98]) fun y2 => bif y2 then
        if 0 ≤ (1 : Int) ∧ (1 : Int) < ((y1.length : Nat) : Int) then Option.bind (m_variants_Key demo19 (y1.getD 1 [])) fun y3 =>
          if 0 ≤ (0 : Int) ∧ (0 : Int) < ((y1.length : Nat) : Int) then Option.bind (m_eponymlaw01_Same y3 (y1.getD 0 [])) fun y4 => some y4 else none
        else none else some false else none else some false := rfl
  rw [e, hAll, bind_some']
  have k := key_eq demo19 demo19_small demo19_rise [224, 98] (by decide)
  simp only [List.length_cons, List.length_nil, List.getD_cons_zero, List.getD_cons_succ]
  rw [k, same_eq _ _ (by decide)]
  simp only [bind_some']
  rw [same_eq _ _ (by decide)]
  decide
theorem vset_eq (f : T_api_Family) (hs : Small f) (hr : ∀ x ∈ f.f_Sets, risingL x) (r : Int) : m_variants_Set f r = some (setF f r) := by
  have hl := set_len hs r
  unfold m_variants_Set m_slices_Clone_rune_rune m_slices_Clone_rune_rune_som
  rw [vfind_eq f hs hr, bind_some', if_pos (by omega)]; rfl
/-- A rune's wheel: its set, or itself alone. -/
def wheelF (f : T_api_Family) (r : Int) : List Int := if (setF f r).length = 0 then [r] else setF f r
def wheels (f : T_api_Family) (l : List Int) : List (List Int) := l.map (wheelF f)
theorem wheel_pos (f : T_api_Family) (r : Int) : 0 < (wheelF f r).length := by
  unfold wheelF; split
  · exact Nat.one_pos
  · omega
theorem wheel_len {f : T_api_Family} (hs : Small f) (r : Int) : (wheelF f r).length ≤ 20 := by
  unfold wheelF; split
  · exact (by decide : 1 ≤ 20)
  · exact set_len hs r
theorem set_mid {α : Type} {A B : List α} {x y : α} {i : Nat} (h : A.length = i) : (A ++ x :: B).set i y = A ++ y :: B := by
  rw [List.set_append_right _ _ (by omega), h, Nat.sub_self, List.set_cons_zero]
theorem getD_mid {α : Type} {A B : List α} {x d : α} {i : Nat} (h : A.length = i) : (A ++ x :: B).getD i d = x := by
  rw [List.getD_eq_getElem?_getD, List.getElem?_append_right (by omega), h, Nat.sub_self]; rfl
theorem seq_eq (f : T_api_Family) (hs : Small f) (hr : ∀ x ∈ f.f_Sets, risingL x) (l : List Int) (hl : l.length ≤ 1000) : m_variants_Seq f l = some (wheels f l) := by
  have key : ∀ (k i : Nat), i + k = l.length → iter (m_variants_Seq_L5 f l) ((l.take i).map (wheelF f) ++ List.replicate k [], (i : Int)) = some (wheels f l) := by
    intro k
    induction k with
    | zero =>
      intro i hi
      obtain rfl : i = l.length := by omega
      refine iter_done ?_
      unfold m_variants_Seq_L5
      simp only
      rw [decide_eq_false (by omega), List.take_length]; simp [wheels]
    | succ k ih =>
      intro i hi
      have hil : i < l.length := by omega
      rw [← ih (i + 1) (by omega)]
      refine iter_next ?_
      have hA : ((l.take i).map (wheelF f)).length = i := by simp; omega
      have e : (l.take i).map (wheelF f) ++ wheelF f (l.getD i 0) :: List.replicate k [] = (l.take (i + 1)).map (wheelF f) ++ List.replicate k [] := by
        have e1 : l.getD i 0 = l[i] := by simp [List.getD_eq_getElem?_getD, hil]
        rw [List.take_succ_eq_append_getElem hil, List.map_append, List.map_cons, List.map_nil, e1, List.append_assoc]; rfl
      unfold m_variants_Seq_L5
      simp only [Int.toNat_natCast]
      rw [decide_eq_true (by omega), cond_true, if_pos ⟨by omega, by omega⟩, vset_eq f hs hr, bind_some', List.replicate_succ, if_pos ⟨by omega, by simp; omega⟩, bind_some', set_mid hA]
      unfold m_variants_Seq_K8
      simp only [Int.toNat_natCast]
      rw [getD_mid hA, if_pos ⟨by omega, by simp; omega⟩, up (by omega)]
      rw [← e]
      by_cases h0 : (setF f (l.getD i 0)).length = 0
      · have hw : wheelF f (l.getD i 0) = [l.getD i 0] := by unfold wheelF; rw [if_pos h0]
        rw [hw, show ((((setF f (l.getD i 0)).length : Nat) : Int) == 0) = true by rw [h0]; rfl, cond_true, if_pos ⟨by omega, by simp; omega⟩, set_mid hA]
      · have hw : wheelF f (l.getD i 0) = setF f (l.getD i 0) := by unfold wheelF; rw [if_neg h0]
        rw [hw, show ((((setF f (l.getD i 0)).length : Nat) : Int) == 0) = false by simp; exact fun h => h0 (by simp [h]), cond_false]
  have := key l.length 0 (by omega)
  unfold m_variants_Seq
  rw [if_pos ⟨by omega, by omega, by omega⟩]
  simp only [List.take_zero, List.map_nil, List.nil_append] at this
  rw [show (0 : Int) = ((0 : Nat) : Int) from rfl, this]; rfl
/-! ### Rows -/
def toI (ds : List Nat) : List Int := ds.map fun (d : Nat) => (d : Int)
theorem toI_len (ds : List Nat) : (toI ds).length = ds.length := by simp [toI]
theorem toI_getD (ds : List Nat) (i : Nat) : (toI ds).getD i 0 = ((ds.getD i 0 : Nat) : Int) := by
  simp only [toI, List.getD_eq_getElem?_getD, List.getElem?_map]
  cases ds[i]? <;> rfl
def rowF (ws : List (List Int)) (ds : List Nat) : List Int := List.zipWith (fun w d => w.getD d 0) ws ds
theorem rowF_len {ws : List (List Int)} {ds : List Nat} (h : ds.length = ws.length) : (rowF ws ds).length = ws.length := by simp [rowF, h]
theorem rowF_getD {ws : List (List Int)} {ds : List Nat} (h : ds.length = ws.length) {i : Nat} (hi : i < ws.length) : (rowF ws ds).getD i 0 = (ws.getD i []).getD (ds.getD i 0) 0 := by
  have h1 : ws[i]? = some ws[i] := List.getElem?_eq_getElem hi
  have h2 : ds[i]? = some ds[i] := List.getElem?_eq_getElem (by omega)
  simp only [rowF, List.getD_eq_getElem?_getD, List.getElem?_zipWith, h1, h2, Option.getD_some]
/-- Digits fit their wheels. -/
def Fits (ws : List (List Int)) (ds : List Nat) : Prop := ds.length = ws.length ∧ ∀ i, i < ws.length → ds.getD i 0 < (ws.getD i []).length
structure Wh (ws : List (List Int)) : Prop where
  len : ws.length ≤ 1000
  pos : ∀ w ∈ ws, 0 < w.length ∧ w.length ≤ 1000
theorem row_eq (ws : List (List Int)) (ds : List Nat) (hw : Wh ws) (hf : Fits ws ds) : iter (m_variants_Seq_1_L16 ws (toI ds)) (List.replicate ws.length 0, (0 : Int)) = some (rowF ws ds) := by
  have hw1 := hw.len
  have key : ∀ (k i : Nat), i + k = ws.length → iter (m_variants_Seq_1_L16 ws (toI ds)) ((rowF ws ds).take i ++ List.replicate k 0, (i : Int)) = some (rowF ws ds) := by
    intro k
    induction k with
    | zero =>
      intro i hi
      obtain rfl : i = ws.length := by omega
      refine iter_done ?_
      unfold m_variants_Seq_1_L16
      simp only
      rw [decide_eq_false (by omega), List.take_of_length_le (by rw [rowF_len hf.1]; exact Nat.le_refl _)]; simp
    | succ k ih =>
      intro i hi
      have hil : i < ws.length := by omega
      have hrl := rowF_len hf.1
      rw [← ih (i + 1) (by omega)]
      refine iter_next ?_
      have hA : ((rowF ws ds).take i).length = i := by simp [hrl]; omega
      have e : (rowF ws ds).take i ++ (rowF ws ds).getD i 0 :: List.replicate k 0 = (rowF ws ds).take (i + 1) ++ List.replicate k 0 := by
        have e1 : (rowF ws ds).getD i 0 = (rowF ws ds)[i]'(by omega) := by simp [List.getD_eq_getElem?_getD, show i < (rowF ws ds).length by omega]
        rw [List.take_succ_eq_append_getElem (show i < (rowF ws ds).length by omega), e1, List.append_assoc]; rfl
      have hfi := hf.2 i hil
      unfold m_variants_Seq_1_L16
      simp only [Int.toNat_natCast, toI_getD]
      rw [decide_eq_true (by omega), cond_true, if_pos ⟨by omega, by omega⟩, if_pos ⟨by omega, by rw [toI_len, hf.1]; omega⟩, if_pos ⟨by omega, by omega⟩, List.replicate_succ, if_pos ⟨by omega, by simp [hrl]; omega⟩, set_mid hA, up (by omega), ← rowF_getD hf.1 hil, e]
  have := key ws.length 0 (by omega)
  rwa [List.take_zero, List.nil_append] at this
/-! ### The odometer -/
def nsOf (ws : List (List Int)) : List Nat := (ws.map List.length).reverse
def digK (ns : List Nat) (k : Nat) : List Nat := (digR ns k).reverse
theorem odo (ws : List (List Int)) (hw : Wh ws) : ∀ (ns ds : List Nat) (z : Nat) (tail : List Nat), ns.length = ds.length → ws.map List.length = ns.reverse ++ tail → tail.length = z → (∀ d ∈ ds, d < 1000) →
    Option.bind (iter (m_variants_Seq_1_L9 ws) (toI ds.reverse ++ List.replicate z 0, (ds.length : Int) - 1)) (fun s => m_variants_Seq_1_K6 s) = some (match nextR ns ds with | none => .done () | some ds' => .next (toI ds'.reverse ++ List.replicate z 0))
  | [], [], z, tail, _, he, hz, _ => by
    have hi : iter (m_variants_Seq_1_L9 ws) (toI ([] : List Nat).reverse ++ List.replicate z 0, (([] : List Nat).length : Int) - 1) = some (toI ([] : List Nat).reverse ++ List.replicate z 0, (-1 : Int)) := by
      refine iter_done ?_
      unfold m_variants_Seq_1_L9
      simp only [List.length_nil]
      rw [decide_eq_false (by omega)]; rfl
    rw [hi]; rfl
  | n :: ns, d :: ds, z, tail, hl, he, hz, hds => by
    have hw1 := hw.len
    have hl' : ns.length = ds.length := by simpa using hl
    have hwl : ws.length = ds.length + 1 + z := by
      have := congrArg List.length he
      simp at this; omega
    have he' : ws.map List.length = ns.reverse ++ n :: tail := by rw [he]; simp
    have hn : (ws.getD ds.length []).length = n := by
      have h1 : (ws.map List.length).getD ds.length 0 = n := by rw [he']; exact getD_mid (by simp [hl'])
      have hil : ds.length < ws.length := by omega
      rw [List.getD_eq_getElem?_getD, List.getElem?_map, List.getElem?_eq_getElem hil] at h1
      rw [List.getD_eq_getElem?_getD, List.getElem?_eq_getElem hil]
      exact h1
    have hnp := hw.pos _ (getD_mem (d := ([] : List Int)) (show ds.length < ws.length by omega))
    rw [hn] at hnp
    have hA : (toI ds.reverse).length = ds.length := by simp [toI_len]
    have e0 : toI (d :: ds).reverse ++ List.replicate z 0 = toI ds.reverse ++ (d : Int) :: List.replicate z 0 := by simp [toI]
    have hlen : (toI ds.reverse ++ (d : Int) :: List.replicate z 0).length = ds.length + 1 + z := by simp [toI_len]; omega
    have hidx : (((d :: ds).length : Nat) : Int) - 1 = ((ds.length : Nat) : Int) := by simp
    rw [e0, hidx]
    have hb : m_variants_Seq_1_L9 ws (toI ds.reverse ++ (d : Int) :: List.replicate z 0, ((ds.length : Nat) : Int)) = (if d + 1 = n then some (.next (toI ds.reverse ++ List.replicate (z + 1) 0, (ds.length : Int) - 1)) else some (.done (toI ds.reverse ++ (d : Int) :: List.replicate z 0, ((ds.length : Nat) : Int)))) := by
      unfold m_variants_Seq_1_L9 m_variants_Seq_1_K12
      simp only [Int.toNat_natCast]
      rw [decide_eq_true (by omega), cond_true, if_pos ⟨by omega, by rw [hlen]; omega⟩, if_pos ⟨by omega, by omega⟩, getD_mid hA, hn, bind_some', w64 (x := ((n : Nat) : Int) - 1) (by omega) (by omega)]
      by_cases hd : d + 1 = n
      · rw [if_pos hd, show ((d : Int) == ((n : Nat) : Int) - 1) = true by simp; omega, cond_true, if_pos ⟨by omega, by rw [hlen]; omega⟩, set_mid hA, w64 (by omega) (by omega), List.replicate_succ]
      · rw [if_neg hd, show ((d : Int) == ((n : Nat) : Int) - 1) = false by simp; omega, cond_false]
    rw [nextR]
    by_cases hd : d + 1 = n
    · rw [if_pos hd] at hb ⊢
      rw [iter_next hb]
      have ih := odo ws hw ns ds (z + 1) (n :: tail) hl' he' (by simp [hz]) fun x hx => hds x (by simp [hx])
      rw [ih]
      cases hnx : nextR ns ds with
      | none => rfl
      | some ds' =>
        simp only [Option.map_some]
        congr 2
        simp [toI, List.replicate_succ]
    · rw [if_neg hd] at hb ⊢
      rw [iter_done hb, bind_some']
      unfold m_variants_Seq_1_K6
      simp only [Int.toNat_natCast]
      rw [decide_eq_false (by omega), cond_false, if_pos ⟨by omega, by rw [hlen]; omega⟩, if_pos ⟨by omega, by rw [hlen]; omega⟩, getD_mid hA, set_mid hA]
      have hd1 := hds d (by simp)
      rw [up (by omega)]
      simp [toI]
/-- One more than a number's digits. -/
theorem prod_app : ∀ (a b : List Nat), prodL (a ++ b) = prodL a * prodL b
  | [], b => (Nat.one_mul _).symm
  | n :: a, b => by
    show n * prodL (a ++ b) = n * prodL a * prodL b
    rw [prod_app a b, Nat.mul_assoc]
theorem prod_rev : ∀ (a : List Nat), prodL a.reverse = prodL a
  | [] => rfl
  | n :: a => by
    rw [List.reverse_cons, prod_app, prod_rev a, Nat.mul_comm]
    show n * 1 * prodL a = n * prodL a
    rw [Nat.mul_one]
theorem digR_lt : ∀ (ns : List Nat) (k : Nat), (∀ n ∈ ns, 0 < n) → ∀ i, i < ns.length → (digR ns k).getD i 0 < ns.getD i 0
  | n :: ns, k, h, 0, _ => Nat.mod_lt k (h n (by simp))
  | n :: ns, k, h, i + 1, hi => digR_lt ns (k / n) (fun m hm => h m (by simp [hm])) i (by simpa using hi)
def total (ws : List (List Int)) : Nat := prodL (nsOf ws)
theorem ns_pos {ws : List (List Int)} (hw : Wh ws) : ∀ n ∈ nsOf ws, 0 < n ∧ n ≤ 1000 := fun n hn => by
  simp only [nsOf, List.mem_reverse, List.mem_map] at hn
  obtain ⟨w, h1, rfl⟩ := hn
  exact hw.pos w h1
theorem digK_len (ws : List (List Int)) (k : Nat) : (digK (nsOf ws) k).length = ws.length := by simp [digK, digR_len, nsOf]
theorem rev_getD {α : Type} (l : List α) (d : α) (i : Nat) (hi : i < l.length) : l.reverse.getD i d = l.getD (l.length - 1 - i) d := by
  simp only [List.getD_eq_getElem?_getD, List.getElem?_reverse hi]
theorem digK_fits {ws : List (List Int)} (hw : Wh ws) (k : Nat) : Fits ws (digK (nsOf ws) k) := by
  refine ⟨digK_len ws k, fun i hi => ?_⟩
  have hl : (digR (nsOf ws) k).length = ws.length := by simp [digR_len, nsOf]
  have hn : (nsOf ws).length = ws.length := by simp [nsOf]
  have h1 := digR_lt (nsOf ws) k (fun n hn => (ns_pos hw n hn).1) (ws.length - 1 - i) (by omega)
  rw [digK, rev_getD _ _ _ (by omega), hl]
  refine Nat.lt_of_lt_of_eq h1 ?_
  unfold nsOf
  rw [rev_getD _ _ _ (by simp; omega)]
  have : (ws.map List.length).length - 1 - (ws.length - 1 - i) = i := by simp; omega
  rw [this, List.getD_eq_getElem?_getD, List.getD_eq_getElem?_getD, List.getElem?_map, List.getElem?_eq_getElem hi]
  rfl
theorem it_eq {ws : List (List Int)} (hw : Wh ws) (k : Nat) (hk : k < total ws) : m_variants_Seq_1_it ws (toI (digK (nsOf ws) k)) = some (.yld (rowF ws (digK (nsOf ws) k)) (some (if k + 1 < total ws then .next (toI (digK (nsOf ws) (k + 1))) else .done ()))) := by
  have hw1 := hw.len
  have hf := digK_fits hw k
  have hds : ∀ d ∈ digR (nsOf ws) k, d < 1000 := fun d hd => by
    obtain ⟨i, hi, rfl⟩ := List.getElem_of_mem hd
    rw [digR_len] at hi
    have h1 := digR_lt (nsOf ws) k (fun n hn => (ns_pos hw n hn).1) i hi
    have h2 := (ns_pos hw _ (getD_mem (d := 0) hi)).2
    have h3 : (digR (nsOf ws) k).getD i 0 = (digR (nsOf ws) k)[i] := by simp [List.getD_eq_getElem?_getD, digR_len, hi]
    rw [← h3]
    omega
  have ho := odo ws hw (nsOf ws) (digR (nsOf ws) k) 0 [] (digR_len _ _).symm (by simp [nsOf]) rfl hds
  rw [next_digR _ _ (fun n hn => (ns_pos hw n hn).1) hk] at ho
  simp only [List.replicate_zero, List.append_nil] at ho
  unfold m_variants_Seq_1_it
  rw [if_pos ⟨by omega, by omega, by omega⟩, row_eq ws _ hw hf, bind_some']
  unfold m_variants_Seq_1_K4
  have hlen : (toI (digK (nsOf ws) k)).length = (digR (nsOf ws) k).length := by simp [toI_len, digK]
  have hl2 : (digR (nsOf ws) k).length = ws.length := by simp [digR_len, nsOf]
  rw [hlen, w64 (by omega) (by omega)]
  show some (YS.yld _ (Option.bind (iter (m_variants_Seq_1_L9 ws) (toI (digR (nsOf ws) k).reverse, ((digR (nsOf ws) k).length : Int) - 1)) fun s5 => m_variants_Seq_1_K6 s5)) = _
  rw [ho]
  congr 3
  unfold total
  by_cases h : k + 1 < prodL (nsOf ws)
  · rw [if_pos h, if_pos h]; rfl
  · rw [if_neg h, if_neg h]
theorem init_eq {ws : List (List Int)} (hw : Wh ws) : m_variants_Seq_1 ws = some (toI (digK (nsOf ws) 0)) := by
  have hw1 := hw.len
  unfold m_variants_Seq_1
  rw [if_pos ⟨by omega, by omega, by omega⟩, digK, digR_zero]
  simp [toI, nsOf]
theorem total_pos {ws : List (List Int)} (hw : Wh ws) : 0 < total ws := prodL_pos _ fun n hn => (ns_pos hw n hn).1
/-- The k-th row. -/
def rowK (ws : List (List Int)) (k : Nat) : List Int := rowF ws (digK (nsOf ws) k)
section
variable {C R : Type} {cb : List Int → C → Option (Stp C R)}
theorem range_next {ws : List (List Int)} (hw : Wh ws) {k : Nat} {c c' : C} (hk : k < total ws) (h : cb (rowK ws k) c = some (.next c')) :
    iter (rangeB (m_variants_Seq_1_it ws) cb) (toI (digK (nsOf ws) k), c) = if k + 1 < total ws then iter (rangeB (m_variants_Seq_1_it ws) cb) (toI (digK (nsOf ws) (k + 1)), c') else some (.inl c') := by
  have hb : rangeB (m_variants_Seq_1_it ws) cb (toI (digK (nsOf ws) k), c) = some (if k + 1 < total ws then .next (toI (digK (nsOf ws) (k + 1)), c') else .done (.inl c')) := by
    simp only [rangeB, it_eq hw k hk]
    unfold rowK at h
    rw [h]
    by_cases hl : k + 1 < total ws
    · rw [if_pos hl, if_pos hl]
    · rw [if_neg hl, if_neg hl]
  by_cases hl : k + 1 < total ws
  · rw [if_pos hl] at hb ⊢; exact iter_next hb
  · rw [if_neg hl] at hb ⊢; exact iter_done hb
theorem range_done {ws : List (List Int)} (hw : Wh ws) {k : Nat} {c : C} {r : R} (hk : k < total ws) (h : cb (rowK ws k) c = some (.done r)) : iter (rangeB (m_variants_Seq_1_it ws) cb) (toI (digK (nsOf ws) k), c) = some (.inr r) := by
  refine iter_done ?_
  simp only [rangeB, it_eq hw k hk]
  unfold rowK at h
  rw [h]
end
theorem wh_wheels {f : T_api_Family} (hs : Small f) {l : List Int} (hl : l.length ≤ 1000) : Wh (wheels f l) := by
  refine ⟨by simpa [wheels] using hl, fun w hw => ?_⟩
  simp only [wheels, List.mem_map] at hw
  obtain ⟨r, _, rfl⟩ := hw
  have := wheel_len hs r
  exact ⟨wheel_pos f r, by omega⟩
theorem all_eq (f : T_api_Family) (hs : Small f) (hr : ∀ x ∈ f.f_Sets, risingL x) (l : List Int) (hl : l.length ≤ 1000) (most : Int) (hm : most ≤ 1000000) : m_variants_All f l most = some ((List.range (min (total (wheels f l)) most.toNat)).map (rowK (wheels f l))) := by
  have hw := wh_wheels hs hl
  have htp := total_pos hw
  unfold m_variants_All
  by_cases h1 : most < 1
  · rw [decide_eq_true h1, cond_true, show most.toNat = 0 by omega, Nat.min_zero]; rfl
  · rw [decide_eq_false h1, cond_false, seq_eq f hs hr l hl, bind_some', init_eq hw, bind_some']
    generalize wheels f l = ws at *
    obtain ⟨mm, rfl⟩ : ∃ mm : Nat, most = (mm : Int) := ⟨most.toNat, by omega⟩
    have key : ∀ (q k : Nat), k + q = min (total ws) mm → k < min (total ws) mm → ∃ z, iter (rangeB (m_variants_Seq_1_it ws) (m_variants_All_L9 (mm : Int))) (toI (digK (nsOf ws) k), (List.range k).map (rowK ws)) = some z ∧ (z = .inl ((List.range (min (total ws) mm)).map (rowK ws)) ∨ z = .inr ((List.range (min (total ws) mm)).map (rowK ws))) := by
      intro q
      induction q with
      | zero => intro k h h'; omega
      | succ q ih =>
        intro k h h'
        have e : (List.range k).map (rowK ws) ++ [rowK ws k] = (List.range (k + 1)).map (rowK ws) := by rw [List.range_succ, List.map_append]; rfl
        have hcb : m_variants_All_L9 (mm : Int) (rowK ws k) ((List.range k).map (rowK ws)) = some (if mm ≤ k + 1 then .done ((List.range (k + 1)).map (rowK ws)) else .next ((List.range (k + 1)).map (rowK ws))) := by
          unfold m_variants_All_L9
          have hlen : ((List.range k).map (rowK ws)).length = k := by simp
          rw [hlen, if_pos (by omega), e]
          by_cases hc : mm ≤ k + 1
          · rw [if_pos hc, decide_eq_true (by omega), cond_true]
          · rw [if_neg hc, decide_eq_false (by omega), cond_false]
        by_cases hc : mm ≤ k + 1
        · rw [if_pos hc] at hcb
          rw [range_done hw (by omega) hcb]
          have : min (total ws) mm = k + 1 := by omega
          rw [this]
          exact ⟨_, rfl, .inr rfl⟩
        · rw [if_neg hc] at hcb
          rw [range_next hw (by omega) hcb]
          by_cases hl : k + 1 < total ws
          · rw [if_pos hl]; exact ih (k + 1) (by omega) (by omega)
          · rw [if_neg hl]
            have : min (total ws) mm = k + 1 := by omega
            rw [this]
            exact ⟨_, rfl, .inl rfl⟩
    obtain ⟨z, hz, hz'⟩ := key (min (total ws) mm) 0 (by omega) (by omega)
    rw [show ((List.range 0).map (rowK ws) : List (List Int)) = [] from rfl] at hz
    rw [hz, Int.toNat_natCast]
    rcases hz' with rfl | rfl <;> rfl
theorem all_demo : m_variants_All demo19 [97, 98] 9 = some [[97, 98], [224, 98]] := by
  rw [all_eq demo19 demo19_small demo19_rise [97, 98] (by decide) 9 (by decide)]
  decide
def rowR (f : T_api_Family) : List Int → Nat → List Int
  | [], _ => []
  | r :: rs, k => (wheelF f r).getD (k % (wheelF f r).length) 0 :: rowR f rs (k / (wheelF f r).length)
theorem rowR_zip (f : T_api_Family) : ∀ (rs : List Int) (k : Nat), rowR f rs k = List.zipWith (fun w d => w.getD d 0) (rs.map (wheelF f)) (digR (rs.map fun r => (wheelF f r).length) k)
  | [], k => rfl
  | r :: rs, k => by
    rw [rowR, rowR_zip f rs]; rfl
theorem rowR_rowK (f : T_api_Family) (l : List Int) (k : Nat) : (rowR f l.reverse k).reverse = rowK (wheels f l) k := by
  have h1 : ((digR (nsOf (wheels f l)) k).reverse).length = (wheels f l).length := by simp [digR_len, nsOf]
  have h2 : nsOf (wheels f l) = l.reverse.map fun r => (wheelF f r).length := by simp [nsOf, wheels, List.map_reverse, List.map_map, Function.comp_def]
  rw [rowR_zip, rowK, rowF, digK, List.reverse_zipWith (by simp [digR_len]), h2]
  congr 1
  simp [wheels, List.map_reverse]
theorem cnt_total (f : T_api_Family) : ∀ (l : List Int) (n : Nat), n ≤ 1073741824 → cntF f l (n : Int) = ((min (n * prodL (l.map fun r => (wheelF f r).length)) 1073741824 : Nat) : Int)
  | [], n, h => by
    have : min (n * prodL ([].map fun r => (wheelF f r).length)) 1073741824 = n := by show min (n * 1) 1073741824 = n; omega
    rw [this]; rfl
  | r :: l, n, h => by
    have hm : max (((setF f r).length : Nat) : Int) 1 = (((wheelF f r).length : Nat) : Int) := by
      unfold wheelF
      split
      · rename_i h0; rw [h0]; rfl
      · omega
    have hwp := wheel_pos f r
    have e : min ((n : Int) * max (((setF f r).length : Nat) : Int) 1) 1073741824 = ((min (n * (wheelF f r).length) 1073741824 : Nat) : Int) := by rw [hm]; push_cast; omega
    have hp : prodL ((r :: l).map fun r => (wheelF f r).length) = (wheelF f r).length * prodL (l.map fun r => (wheelF f r).length) := rfl
    have hpp : 0 < prodL (l.map fun r => (wheelF f r).length) := prodL_pos _ fun n hn => by
      obtain ⟨r, _, rfl⟩ := List.mem_map.1 hn
      exact wheel_pos f r
    rw [cntF, e, cnt_total f l _ (by omega), hp, ← Nat.mul_assoc]
    congr 1
    generalize prodL (l.map fun r => (wheelF f r).length) = p at hpp
    generalize n * (wheelF f r).length = q
    by_cases hq : q ≤ 1073741824
    · rw [Nat.min_eq_left hq]
    · have h1 : min q 1073741824 = 1073741824 := by omega
      have h2 : 1073741824 ≤ 1073741824 * p := Nat.le_mul_of_pos_right _ hpp
      have h3 : q ≤ q * p := Nat.le_mul_of_pos_right _ hpp
      rw [h1]; omega
theorem total_eq (f : T_api_Family) (l : List Int) : total (wheels f l) = prodL (l.map fun r => (wheelF f r).length) := by
  unfold total nsOf
  rw [prod_rev]; simp [wheels, List.map_map, Function.comp_def]
theorem cnt_eq (f : T_api_Family) (l : List Int) : cntF f l 1 = ((min (total (wheels f l)) 1073741824 : Nat) : Int) := by
  have := cnt_total f l 1 (by decide)
  rw [Nat.one_mul, ← total_eq] at this
  exact this
theorem rowK_len (f : T_api_Family) (l : List Int) (k : Nat) : (rowK (wheels f l) k).length = l.length := by
  unfold rowK
  rw [rowF_len (digK_len _ _)]
  simp [wheels]
end Go.Proofs.YtclhniadffljdaaDoor
