/- The law of keys, but for what variants.All answers at one input. No condition. -/
import Derived.Test.YtclhniadffljdaaPVar
namespace Go.Proofs.Ytclhniadffljdaa
open Go Go.SE
set_option linter.unusedVariables false
set_option linter.unusedSimpArgs false
theorem scan_from {V : Type} {body : Int → Option (Stp Int (Sum Unit V))} (a n : Nat) (f : Nat → Option V)
    (hstep : ∀ i, a ≤ i → i < n → body (i : Int) = some (match f i with | none => .next ((i + 1 : Nat) : Int) | some v => .done (.inr v)))
    (hend : body (n : Int) = some (.done (.inl ()))) : ∀ (k i : Nat), a ≤ i → i + k = n → iter body (i : Int) = some (scanX (firstSome f k i)) := by
  intro k
  induction k with
  | zero =>
    intro i ha hi
    have e : i = n := by omega
    rw [e, iter_done hend]; rfl
  | succ k ih =>
    intro i ha hi
    have h1 := hstep i ha (by omega)
    rw [firstSome]
    cases hf : f i with
    | none => rw [hf] at h1; rw [iter_next h1]; exact ih (i + 1) (by omega) (by omega)
    | some v => rw [hf] at h1; rw [iter_done h1]; rfl
noncomputable def rgt (r : Int) : Bool := (m_eponymref01_Right r).getD false
theorem rgt_eq (r : Int) : m_eponymref01_Right r = some (rgt r) := by
  obtain ⟨y, hy⟩ := uRight_total r
  unfold rgt; rw [hy]; rfl
def okSet (x : List Int) : Prop := 2 ≤ x.length ∧ risingL x
theorem rising_of_steps {l : List Int} (step : ∀ i, 0 < i → i < l.length → l.getD (i - 1) 0 < l.getD i 0) : risingL l := by
  intro i j hij hj
  obtain ⟨d, rfl⟩ : ∃ d, j = i + 1 + d := ⟨j - i - 1, by omega⟩
  clear hij
  induction d with
  | zero => exact step (i + 1) (by omega) hj
  | succ d ih =>
    have h1 := ih (by omega)
    have h2 := step (i + 1 + d + 1) (by omega) hj
    rw [show i + 1 + d + 1 - 1 = i + 1 + d by omega] at h2
    exact Int.lt_trans h1 h2
theorem set_ok (f : T_api_Family) (hs : Small f) (i : Nat) (hi : i < f.f_Sets.length) (hp : ∀ j, j < i → 2 ≤ (f.f_Sets.getD j []).length) :
    ∃ z, m_eponymref19_Check_L10 f (i : Int) = some z ∧ ((z = .next ((i + 1 : Nat) : Int) ∧ okSet (f.f_Sets.getD i [])) ∨ ∃ v, z = .done (.inr v) ∧ (v.2 = 0 → False)) := by
  have hset := hs.sets
  have hx := hs.each _ (getD_mem (d := ([] : List Int)) hi)
  have hc45 : iter (m_eponymref19_Check_L45 f (i : Int)) 0 = some (scanX (firstSome (fun k => if rgt ((f.f_Sets.getD i []).getD k 0) = true then none else some ((i : Int), (4 : Int))) (f.f_Sets.getD i []).length 0)) := by
    refine scan_from 0 (f.f_Sets.getD i []).length _ (fun k _ hk => ?_) ?_ (f.f_Sets.getD i []).length 0 (Nat.zero_le _) (by omega)
    · unfold m_eponymref19_Check_L45
      simp only [Int.toNat_natCast]
      rw [decide_eq_true (by omega), cond_true, if_pos ⟨by omega, by omega⟩, rgt_eq, bind_some', up (by omega)]
      cases rgt ((f.f_Sets.getD i []).getD k 0) <;> rfl
    · unfold m_eponymref19_Check_L45
      simp only [Int.toNat_natCast]
      rw [decide_eq_false (by omega)]; rfl
  unfold m_eponymref19_Check_L10
  rw [decide_eq_true (by omega), cond_true, if_pos ⟨by omega, by omega⟩]
  simp only [Int.toNat_natCast]
  rw [hc45, up (by omega)]
  by_cases h2 : (f.f_Sets.getD i []).length < 2
  · rw [decide_eq_true (by omega)]
    exact ⟨_, rfl, .inr ⟨_, rfl, fun h => by simp at h⟩⟩
  · rw [decide_eq_false (by omega), cond_false, bind_some']
    cases h4 : firstSome (fun k => if rgt ((f.f_Sets.getD i []).getD k 0) = true then none else some ((i : Int), (4 : Int))) (f.f_Sets.getD i []).length 0 with
    | some v =>
      obtain ⟨j, _, _, hj, _⟩ := firstSome_some h4
      split at hj
      · cases hj
      · cases hj; exact ⟨_, rfl, .inr ⟨_, rfl, fun h => by simp at h⟩⟩
    | none =>
      simp only [scanX]
      unfold m_eponymref19_Check_K15
      have h38 : iter (m_eponymref19_Check_L38 f (i : Int)) 1 = some (scanX (firstSome (fun k => if (f.f_Sets.getD i []).getD k 0 ≤ (f.f_Sets.getD i []).getD (k - 1) 0 then some ((i : Int), (6 : Int)) else none) ((f.f_Sets.getD i []).length - 1) 1)) := by
        refine scan_from 1 (f.f_Sets.getD i []).length _ (fun k k1 hk => ?_) ?_ ((f.f_Sets.getD i []).length - 1) 1 (Nat.le_refl _) (by omega)
        · unfold m_eponymref19_Check_L38
          simp only [Int.toNat_natCast]
          rw [decide_eq_true (by omega), cond_true, if_pos ⟨by omega, by omega⟩, down (by omega) (by omega), if_pos ⟨by omega, by omega⟩, Int.toNat_natCast, up (by omega)]
          by_cases h : (f.f_Sets.getD i []).getD k 0 ≤ (f.f_Sets.getD i []).getD (k - 1) 0
          · rw [decide_eq_true h, if_pos h]; rfl
          · rw [decide_eq_false h, if_neg h]; rfl
        · unfold m_eponymref19_Check_L38
          simp only [Int.toNat_natCast]
          rw [decide_eq_false (by omega)]; rfl
      rw [h38, bind_some']
      cases h6 : firstSome (fun k => if (f.f_Sets.getD i []).getD k 0 ≤ (f.f_Sets.getD i []).getD (k - 1) 0 then some ((i : Int), (6 : Int)) else none) ((f.f_Sets.getD i []).length - 1) 1 with
      | some v =>
        obtain ⟨j, _, _, hj, _⟩ := firstSome_some h6
        split at hj
        · cases hj; exact ⟨_, rfl, .inr ⟨_, rfl, fun h => by simp at h⟩⟩
        · cases hj
      | none =>
        have hrise : risingL (f.f_Sets.getD i []) := rising_of_steps fun k k0 hk => by
          have := firstSome_none.1 h6 k (by omega) (by omega)
          split at this
          · cases this
          · omega
        simp only [scanX]
        unfold m_eponymref19_Check_K17
        obtain ⟨b, hb⟩ : ∃ b, (bif decide ((i : Int) > 0) then
            if 0 ≤ (0 : Int) ∧ (0 : Int) < (((f.f_Sets.getD ((i : Int).toNat) []).length : Nat) : Int) then
              if 0 ≤ (IntKind.wrap .i64 ((i : Int) - (1 : Int))) ∧ (IntKind.wrap .i64 ((i : Int) - (1 : Int))) < ((f.f_Sets.length : Nat) : Int) then
                if 0 ≤ (0 : Int) ∧ (0 : Int) < (((f.f_Sets.getD ((IntKind.wrap .i64 ((i : Int) - (1 : Int))).toNat) []).length : Nat) : Int) then
                  some (decide (((f.f_Sets.getD ((i : Int).toNat) []).getD 0 0) ≤ ((f.f_Sets.getD ((IntKind.wrap .i64 ((i : Int) - (1 : Int))).toNat) []).getD 0 0)))
                else none
              else none
            else none
          else some false : Option Bool) = some b := by
          simp only [Int.toNat_natCast]
          by_cases i0 : 0 < i
          · have := hp (i - 1) (by omega)
            rw [decide_eq_true (by omega), cond_true, if_pos ⟨by omega, by omega⟩, down i0 (by omega), if_pos ⟨by omega, by omega⟩, Int.toNat_natCast, if_pos ⟨by omega, by omega⟩]
            exact ⟨_, rfl⟩
          · rw [decide_eq_false (by omega)]; exact ⟨_, rfl⟩
        rw [hb, bind_some']
        unfold m_eponymref19_Check_K19
        cases b with
        | true => exact ⟨_, rfl, .inr ⟨_, rfl, fun h => by simp at h⟩⟩
        | false =>
          have h28 : ∀ j, j < i → iter (m_eponymref19_Check_L28 f (i : Int) (j : Int)) 0 = some (scanX (firstSome (fun k => if ((f.f_Sets.getD j []).any fun z => z == (f.f_Sets.getD i []).getD k 0) = true then some ((i : Int), (7 : Int)) else none) (f.f_Sets.getD i []).length 0)) := fun j hj => by
            have hxj := hs.each _ (getD_mem (d := ([] : List Int)) (show j < f.f_Sets.length by omega))
            refine scan_from 0 (f.f_Sets.getD i []).length _ (fun k _ hk => ?_) ?_ (f.f_Sets.getD i []).length 0 (Nat.zero_le _) (by omega)
            · unfold m_eponymref19_Check_L28
              simp only [Int.toNat_natCast]
              rw [decide_eq_true (by omega), cond_true, if_pos ⟨by omega, by omega⟩, if_pos ⟨by omega, by omega⟩, in_eq _ _ (by omega), bind_some', up (by omega)]
              cases ((f.f_Sets.getD j []).any fun z => z == (f.f_Sets.getD i []).getD k 0) <;> rfl
            · unfold m_eponymref19_Check_L28
              simp only [Int.toNat_natCast]
              rw [decide_eq_false (by omega)]; rfl
          have h22 : iter (m_eponymref19_Check_L22 f (i : Int)) 0 = some (scanX (firstSome (fun j => firstSome (fun k => if ((f.f_Sets.getD j []).any fun z => z == (f.f_Sets.getD i []).getD k 0) = true then some ((i : Int), (7 : Int)) else none) (f.f_Sets.getD i []).length 0) i 0)) := by
            refine scan_from 0 i _ (fun j _ hj => ?_) ?_ i 0 (Nat.zero_le _) (by omega)
            · unfold m_eponymref19_Check_L22
              rw [decide_eq_true (by omega), cond_true, h28 j hj, bind_some', up (by omega)]
              cases firstSome (fun k => if ((f.f_Sets.getD j []).any fun z => z == (f.f_Sets.getD i []).getD k 0) = true then some ((i : Int), (7 : Int)) else none) (f.f_Sets.getD i []).length 0 <;> rfl
            · unfold m_eponymref19_Check_L22
              rw [decide_eq_false (by omega)]; rfl
          rw [cond_false, h22, bind_some']
          cases h7 : firstSome (fun j => firstSome (fun k => if ((f.f_Sets.getD j []).any fun z => z == (f.f_Sets.getD i []).getD k 0) = true then some ((i : Int), (7 : Int)) else none) (f.f_Sets.getD i []).length 0) i 0 with
          | none => exact ⟨_, rfl, .inl ⟨rfl, by omega, hrise⟩⟩
          | some v =>
            obtain ⟨j, _, _, hj, _⟩ := firstSome_some h7
            obtain ⟨k, _, _, hk, _⟩ := firstSome_some hj
            split at hk
            · cases hk; exact ⟨_, rfl, .inr ⟨_, rfl, fun h => by simp at h⟩⟩
            · cases hk
theorem sets_loop (f : T_api_Family) (hs : Small f) : ∃ z, iter (m_eponymref19_Check_L10 f) 0 = some z ∧ ((z = .inl () ∧ ∀ x ∈ f.f_Sets, risingL x) ∨ ∃ v, z = .inr v ∧ v.2 ≠ 0) := by
  have hset := hs.sets
  have key : ∀ (k i : Nat), i + k = f.f_Sets.length → (∀ j, j < i → okSet (f.f_Sets.getD j [])) → ∃ z, iter (m_eponymref19_Check_L10 f) (i : Int) = some z ∧ ((z = .inl () ∧ ∀ j, j < f.f_Sets.length → okSet (f.f_Sets.getD j [])) ∨ ∃ v, z = .inr v ∧ v.2 ≠ 0) := by
    intro k
    induction k with
    | zero =>
      intro i hi hp
      obtain rfl : i = f.f_Sets.length := by omega
      refine ⟨.inl (), iter_done ?_, .inl ⟨rfl, hp⟩⟩
      unfold m_eponymref19_Check_L10
      rw [decide_eq_false (by omega)]; rfl
    | succ k ih =>
      intro i hi hp
      obtain ⟨z, hz, ⟨rfl, ho⟩ | ⟨v, rfl, hv⟩⟩ := set_ok f hs i (by omega) fun j hj => (hp j hj).1
      · obtain ⟨z', hz', h'⟩ := ih (i + 1) (by omega) fun j hj => by
          by_cases e : j = i
          · subst e; exact ho
          · exact hp j (by omega)
        exact ⟨z', by rw [iter_next hz]; exact hz', h'⟩
      · exact ⟨_, iter_done hz, .inr ⟨v, rfl, hv⟩⟩
  obtain ⟨z, hz, h⟩ := key f.f_Sets.length 0 (by omega) fun j hj => absurd hj (Nat.not_lt_zero _)
  refine ⟨z, hz, ?_⟩
  rcases h with ⟨h1, h2⟩ | h
  · refine .inl ⟨h1, fun x hx => ?_⟩
    obtain ⟨i, hi, rfl⟩ := List.getElem_of_mem hx
    have := (h2 i hi).2
    simpa [List.getD_eq_getElem?_getD, hi] using this
  · exact .inr h
theorem check19 (f : T_api_Family) (hs : Small f) (hn : f.f_Name.size ≤ 100) : ∃ y, m_eponymref19_Check f = some y ∧ (y.2 = 0 → ∀ x ∈ f.f_Sets, risingL x) := by
  have hset := hs.sets
  obtain ⟨d, hd⟩ := decode_total f.f_Name (by omega)
  unfold m_eponymref19_Check
  rw [hd, bind_some']
  obtain ⟨b, hb⟩ : ∃ b, (bif (((f.f_Name.size : Nat) : Int) == (0 : Int)) then some true else bif (decide (((f.f_Name.size : Nat) : Int) > (63 : Int))) then some true else some (d.2.2 != (0 : Int)) : Option Bool) = some b := condTot _ ⟨_, rfl⟩ (tot1 _ _ _)
  rw [hb, bind_some']
  unfold m_eponymref19_Check_K3
  cases b with
  | true => exact ⟨_, rfl, fun h => by simp at h⟩
  | false =>
    have sum : ∀ (k i : Nat) (n : Int), i + k = f.f_Sets.length → ∃ z, iter (m_eponymref19_Check_L57 f) (n, (i : Int)) = some z := by
      intro k
      induction k with
      | zero =>
        intro i n hi
        refine ⟨n, iter_done ?_⟩
        unfold m_eponymref19_Check_L57
        simp only
        rw [decide_eq_false (by omega)]; rfl
      | succ k ih =>
        intro i n hi
        obtain ⟨z, hz⟩ := ih (i + 1) (IntKind.wrap .i64 (n + (((f.f_Sets.getD i []).length : Nat) : Int))) (by omega)
        refine ⟨z, ?_⟩
        rw [iter_next (s' := (IntKind.wrap .i64 (n + (((f.f_Sets.getD i []).length : Nat) : Int)), ((i + 1 : Nat) : Int)))]
        · exact hz
        · unfold m_eponymref19_Check_L57
          simp only [Int.toNat_natCast]
          rw [decide_eq_true (by omega), cond_true, if_pos ⟨by omega, by omega⟩, up (by omega)]
    obtain ⟨n, hnn⟩ := sum f.f_Sets.length 0 0 (by omega)
    rw [cond_false, show ((0 : Int), (0 : Int)) = ((0 : Int), ((0 : Nat) : Int)) from rfl, hnn, bind_some']
    unfold m_eponymref19_Check_K5
    by_cases h2 : n > 2000
    · rw [decide_eq_true h2]; exact ⟨_, rfl, fun h => by simp at h⟩
    · rw [decide_eq_false h2, cond_false]
      obtain ⟨z, hz, ⟨rfl, hr⟩ | ⟨v, rfl, hv⟩⟩ := sets_loop f hs
      · rw [hz, bind_some']; exact ⟨_, rfl, fun _ => hr⟩
      · rw [hz, bind_some']; exact ⟨_, rfl, fun h => absurd h hv⟩
end Go.Proofs.Ytclhniadffljdaa
