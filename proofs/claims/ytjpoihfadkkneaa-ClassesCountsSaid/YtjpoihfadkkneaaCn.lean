/- Counting runes by their class. No condition. -/
import Derived.Test.YtjpoihfadkkneaaCw
namespace Go.Proofs.Ytjpoihfadkkneaa
open Go Go.SE
set_option linter.unusedVariables false
set_option linter.unusedSimpArgs false
set_option maxRecDepth 10000
attribute [local irreducible] Contract ofG
theorem badFrom_none {m : Int} {l : List Rg} : ∀ (k i : Nat), i + k = l.length → (badFrom m l i k).2 = 0 → ∀ j, i ≤ j → j < l.length → badV m (l.getD j dR) = false
  | 0, i, h, _, j, h1, h2 => by omega
  | k + 1, i, h, h0, j, h1, h2 => by
    rw [badFrom] at h0
    split at h0
    · cases h0
    · rename_i hb
      by_cases e : j = i
      · subst e; simpa using hb
      · exact badFrom_none k (i + 1) (by omega) h0 j (by omega) h2
theorem fnd_value {l : List Rg} {r : Int} : ∀ (k i : Nat), i + k = l.length → (fndFrom l r i k).2 = true → ∃ j, j < l.length ∧ (fndFrom l r i k).1 = (l.getD j dR).v
  | 0, i, _, h => by cases h
  | k + 1, i, hk, h => by
    rw [fndFrom] at h ⊢
    split at h
    · rename_i hc
      rw [if_pos hc]
      exact ⟨i, by omega, rfl⟩
    · rename_i hc
      rw [if_neg hc]
      exact fnd_value k (i + 1) (by omega) h
theorem why_two {p : Pr} {r : Int} (h : whyG fndR p r = 2) : (fndR p.ex.l r).2 = true := by
  unfold whyG at h
  by_cases h1 : (!rightB r) = true
  · rw [if_pos h1] at h; omega
  · rw [if_neg h1] at h
    by_cases h2 : (fndR p.ex.l r).2 = true
    · exact h2
    · rw [if_neg h2] at h
      exfalso
      revert h
      repeat' split
      all_goals simp
theorem of_range {p : Pr} (h : (chkP p).2 = 0) (r : Int) : 1 ≤ ofG fndR p r ∧ ofG fndR p r ≤ 5 := by
  by_cases h2 : whyG fndR p r = 2
  · have hf := why_two h2
    have e : ofG fndR p r = (fndR p.ex.l r).1 := by unfold ofG; rw [if_pos h2]
    rw [e]
    unfold fndR at hf ⊢
    obtain ⟨j, hj, hv⟩ := fnd_value p.ex.l.length 0 (by omega) hf
    rw [hv]
    have hx : (chkTab 5 p.ex.l).2 = 0 := by
      unfold chkP mt at h
      rw [chkTabs] at h
      split at h
      · assumption
      · contradiction
    have hc := all_ok (mt p) h (5, p.ex) (by simp [mt])
    rw [chkTab, if_pos hc] at hx
    have hb := badFrom_none p.ex.l.length 0 (by omega) hx j (Nat.zero_le _) hj
    simp only [badV, Bool.and_eq_false_iff, Bool.or_eq_false_iff, decide_eq_false_iff_not] at hb
    omega
  · have e : [0, 4, 0, 5, 1, 2, 4, 4, 4, 1, 4].getD (whyG fndR p r).toNat 0 = ofG fndR p r := why_of (by simpa using h2)
    rw [← e]
    rcases why_range fndR p r with e | e | e | e | e | e | e | e | e | e <;> rw [e] at h2 ⊢ <;> first | decide | exact absurd rfl h2
/-- One more of a class. -/
def more (L : List Int) (c : Int) : List Int := L.set c.toNat (L.getD c.toNat 0 + 1)
def cnts (p : Pr) (l : List Int) : List Int := l.foldl (fun L r => more L (ofG fndR p r)) [0, 0, 0, 0, 0, 0]
theorem cnts_next (p : Pr) (l : List Int) {i : Nat} (h : i < l.length) : cnts p (l.take (i + 1)) = more (cnts p (l.take i)) (ofG fndR p (l.getD i 0)) := by
  unfold cnts
  rw [List.take_add_one, List.foldl_append]
  simp [h]
theorem cnts_len (p : Pr) : ∀ (l : List Int), (cnts p l).length = 6 := by
  intro l
  unfold cnts
  have : ∀ (l : List Int) (L : List Int), L.length = 6 → (l.foldl (fun L r => more L (ofG fndR p r)) L).length = 6 := by
    intro l
    induction l with
    | nil => exact fun L h => h
    | cons x l ih => exact fun L h => ih _ (by simp [more, h])
  exact this l _ rfl
theorem cnts_le (p : Pr) (l : List Int) (k : Nat) : ∀ (i : Nat), i ≤ l.length → 0 ≤ (cnts p (l.take i)).getD k 0 ∧ (cnts p (l.take i)).getD k 0 ≤ i
  | 0, _ => by
    have : (cnts p (l.take 0)).getD k 0 = 0 := by
      show ([0, 0, 0, 0, 0, 0] : List Int).getD k 0 = 0
      match k with
      | 0 | 1 | 2 | 3 | 4 | 5 => rfl
      | k + 6 => rfl
    rw [this]; omega
  | i + 1, h => by
    have ih := cnts_le p l k i (by omega)
    rw [cnts_next p l (by omega), more]
    by_cases e : (ofG fndR p (l.getD i 0)).toNat = k
    · by_cases hk : k < (cnts p (l.take i)).length
      · rw [e, List.getD_eq_getElem?_getD, List.getElem?_set_self hk]
        simp only [Option.getD_some]
        omega
      · rw [List.getD_eq_getElem?_getD, List.getElem?_eq_none (by rw [List.length_set]; omega)]
        simp only [Option.getD_none]
        omega
    · rw [List.getD_eq_getElem?_getD, List.getElem?_set_ne e, ← List.getD_eq_getElem?_getD]
      omega
structure Ru where
  nl : Option Bool
  l : List Int
def encI (t : Ru) : AV := .sl t.nl t.l.length fun i => .int .i32 (t.l.getD i 0)
theorem more_eq {L : List Int} {c : Int} (h : 0 ≤ L.getD c.toNat 0) (h2 : L.getD c.toNat 0 ≤ 1000) : L.set c.toNat (IntKind.wrap .i64 (L.getD c.toNat 0 + 1)) = more L c := by
  rw [more, wrap64]
  congr 1
  omega
/-- Six numbers, told one by one. -/
def six (L : List Int) : List Int := [L.getD 0 0, L.getD 1 0, L.getD 2 0, L.getD 3 0, L.getD 4 0, L.getD 5 0]
theorem six_eq {L : List Int} (h : L.length = 6) : six L = L := by
  match L, h with
  | [a, b, c, d, e, f], _ => rfl
def stC (p : Pr) (L : List Int) : Store := [some ⟨11, 24, .vals [encP p], false, false⟩, some ⟨1, 31, .ints .i64 [0, 0, 0, 0, 0, 0], false, false⟩, some ⟨1, 31, .ints .i64 (six L), false, false⟩]
theorem cnt23 (p : Pr) (t : Ru) (hb : fits p) (hr : (chkP p).2 = 0) (hn : t.l.length ≤ 20) : Contract Try.prog 23 [encP p, encI t] [] (.aggi .i64 (cnts p t.l)) [] := by
  have c11 : ∀ r, Contract Try.prog 11 [encP p, .int .i32 r] [] (.int .i64 (ofG fndR p r)) [] := fun r => by have := of11 p r hb; rwa [of_same hr] at this
  refine contract_of_awp mix Try.func23 rfl (by kernel_rfl) ?_
  repeat' ((conv => whnf); first | refine brP_intro (fun _ => ?_) (fun _ => ?_) | refine storeEq rfl ?_ | refine natEq rfl ?_ | refine drawGo (by kernel_rfl) ?_ | refine And.intro ?_ ?_ | fail)
  conv => whnf
  refine loop_intro (fun i : Nat => mkF 31 [(2, .mp 0 0 0), (4, .mp 1 0 0), (5, .mp 2 0 0), (9, encI t), (10, .int .i64 t.l.length), (11, .int .i64 i)] (stC p (cnts p (t.l.take i)))) (fun i => i ≤ t.l.length) (fun i => t.l.length - i) 0 (Nat.zero_le _) (by refine weak_keep2 rfl rfl ?_; (repeat' (first | exact trivial | refine And.intro rfl ?_ | fail))) ?_
  intro i hi hM
  repeat' ((conv => whnf); first | refine brP_intro (fun _ => ?_) (fun _ => ?_) | refine storeEq rfl ?_ | refine natEq rfl ?_ | refine drawGo (by kernel_rfl) ?_ | refine And.intro ?_ ?_ | refine ⟨_, c11 _, rfl, ?_⟩ | refine next (a := i) hM (i + 1) ?_ ?_ ?_ | fail)
  all_goals try exact nilStore
  all_goals try (clear hM; (simp only [tt, ft, notT, eqF, Bool.and_eq_true, Bool.or_eq_true, decide_eq_true_eq, beq_iff_eq, wrap64, Int.toNat_natCast, ge_iff_le, gt_iff_lt] at *; omega))
  all_goals clear hM
  all_goals try (exfalso; have hc := of_range hr (t.l.getD (i : Int).toNat 0); (simp only [tt, ft, notT, eqF, Bool.and_eq_true, Bool.or_eq_true, decide_eq_true_eq, beq_iff_eq, wrap64, Int.toNat_natCast, ge_iff_le, gt_iff_lt] at *; omega))
  · rename_i a b c
    have hlt : i < t.l.length := ltI a
    have hle := cnts_le p t.l (ofG fndR p (t.l.getD (i : Int).toNat 0)).toNat i (by omega)
    have h : (six (cnts p (t.l.take i))).set (ofG fndR p (t.l.getD (i : Int).toNat 0)).toNat (IntKind.wrap .i64 ((six (cnts p (t.l.take i))).getD (ofG fndR p (t.l.getD (i : Int).toNat 0)).toNat 0 + 1)) = six (cnts p (t.l.take (i + 1))) := by
      rw [six_eq (cnts_len p _), six_eq (cnts_len p _), more_eq hle.1 (by omega), cnts_next p t.l hlt]
      simp only [Int.toNat_natCast]
    refine weak_keep2 rfl (congrArg (fun L => ([some ⟨11, 24, .vals [encP p], false, false⟩, some ⟨1, 31, .ints .i64 [0, 0, 0, 0, 0, 0], false, false⟩, some ⟨1, 31, .ints .i64 L, false, false⟩] : Store)) h) ?_
    repeat' (first | exact trivial | refine And.intro rfl ?_ | refine And.intro (bump (by omega)) ?_ | fail)
  · rename_i a
    rw [six_eq (cnts_len p _), List.take_of_length_le (geI a)]
/-- The first place from i on whose rune has a class. -/
def fstFrom (p : Pr) (l : List Int) (c : Int) : Nat → Nat → Int
  | _, 0 => -1
  | i, k + 1 => if ofG fndR p (l.getD i 0) = c then i else fstFrom p l c (i + 1) k
theorem fst_step {p : Pr} {l : List Int} {c : Int} {i : Nat} (h : i < l.length) : fstFrom p l c i (l.length - i) = if ofG fndR p (l.getD i 0) = c then (i : Int) else fstFrom p l c (i + 1) (l.length - (i + 1)) := by
  rw [show l.length - i = (l.length - (i + 1)) + 1 by omega, fstFrom]
theorem fst_end {p : Pr} {l : List Int} {c : Int} {i : Nat} (h : l.length ≤ i) : fstFrom p l c i (l.length - i) = -1 := by
  rw [show l.length - i = 0 by omega, fstFrom]
theorem first24 (p : Pr) (t : Ru) (c : Int) (hb : fits p) (hr : (chkP p).2 = 0) (hn : t.l.length ≤ 20) : Contract Try.prog 24 [encP p, encI t, .int .i64 c] [] (.int .i64 (fstFrom p t.l c 0 t.l.length)) [] := by
  have c11 : ∀ r, Contract Try.prog 11 [encP p, .int .i32 r] [] (.int .i64 (ofG fndR p r)) [] := fun r => by have := of11 p r hb; rwa [of_same hr] at this
  refine contract_of_awp mix Try.func24 rfl (by kernel_rfl) ?_
  repeat' ((conv => whnf); first | refine brP_intro (fun _ => ?_) (fun _ => ?_) | refine storeEq rfl ?_ | refine natEq rfl ?_ | refine drawGo (by kernel_rfl) ?_ | refine And.intro ?_ ?_ | fail)
  conv => whnf
  refine loop_at 23 (fun i : Nat => [(2, .int .i64 c), (3, .mp 0 0 0), (6, .int .i64 0), (9, encI t), (10, .int .i64 t.l.length), (11, .int .i64 i)]) (fun i => i ≤ t.l.length ∧ fstFrom p t.l c 0 t.l.length = fstFrom p t.l c i (t.l.length - i)) (fun i => t.l.length - i) 0 ⟨Nat.zero_le _, rfl⟩ ?_ ?_ ?_
  · rfl
  · (repeat' (first | exact trivial | refine And.intro rfl ?_ | fail))
  rintro i ⟨hi, he⟩ hM
  repeat' ((conv => whnf); first | refine brP_intro (fun _ => ?_) (fun _ => ?_) | refine storeEq rfl ?_ | refine natEq rfl ?_ | refine drawGo (by kernel_rfl) ?_ | refine And.intro ?_ ?_ | refine ⟨_, c11 _, rfl, ?_⟩ | refine next (a := i) hM (i + 1) ?_ ?_ ?_ | fail)
  all_goals try exact nilStore
  all_goals try (clear hM; (simp only [tt, ft, notT, eqF, Bool.and_eq_true, Bool.or_eq_true, decide_eq_true_eq, beq_iff_eq, wrap64, Int.toNat_natCast, ge_iff_le, gt_iff_lt] at *; omega))
  all_goals clear hM
  all_goals try (refine weak_keep rfl ?_; repeat' (first | exact trivial | refine And.intro rfl ?_ | refine And.intro (bump (by omega)) ?_ | fail))
  · rename_i a b
    rw [he, fst_step (ltI a), if_pos (by simpa using b)]
  · rename_i a b
    rw [he, fst_step (ltI a), if_neg (by simpa using b)]
  · rename_i a
    rw [he, fst_end (geI a)]
end Go.Proofs.Ytjpoihfadkkneaa
