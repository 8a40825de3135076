/- What two runes compose to: the program's answer and the document's. No condition. -/
import Derived.Test.YtjhgaacecfmadaaPAll5
namespace Go.Proofs.Ytjhgaacecfmadaa
open Go Go.SE
set_option linter.unusedVariables false
set_option linter.unusedSimpArgs false
set_option maxHeartbeats 1000000
set_option maxRecDepth 10000
def r32 (x : Int) : Prop := -2147483648 ≤ x ∧ x ≤ 2147483647
def hangF (a b : Int) : Int :=
  if 4352 ≤ a ∧ a ≤ 4370 ∧ 4449 ≤ b ∧ b ≤ 4469 then 44032 + ((a - 4352) * 21 + (b - 4449)) * 28
  else if 44032 ≤ a ∧ a ≤ 55203 ∧ (a - 44032) % 28 = 0 ∧ 4520 ≤ b ∧ b ≤ 4546 then a + b - 4519 else -1
theorem within_eq {r f m : Int} (hr : r32 r) (hf : 0 ≤ f ∧ f ≤ 100000) (hm : 0 ≤ m ∧ m ≤ 100000) : m_comp_within r f m = some (decide (f ≤ r ∧ r < f + m)) := by
  unfold m_comp_within
  unfold r32 at hr
  by_cases h : r ≥ f
  · rw [decide_eq_true h, cond_true, w32 (by omega) (by omega), w64 (by omega) (by omega)]
    congr 1
    exact decide_eq_decide.2 (by omega)
  · rw [decide_eq_false h, cond_false, decide_eq_false (by omega)]
theorem chang_eq {a b : Int} (ha : r32 a) (hb : r32 b) : m_comp_hangul a b = some (if 0 ≤ hangF a b then (hangF a b, true) else (0, false)) := by
  unfold m_comp_hangul m_comp_hangul_K2 m_comp_hangul_K4 m_comp_open
  rw [within_eq ha (by omega) (by omega), within_eq hb (by omega) (by omega), within_eq ha (by omega) (by omega), within_eq hb (by omega) (by omega)]
  simp only [bind_some']
  unfold r32 at ha hb
  by_cases h1 : 4352 ≤ a ∧ a ≤ 4370 ∧ 4449 ≤ b ∧ b ≤ 4469
  · have e : hangF a b = 44032 + ((a - 4352) * 21 + (b - 4449)) * 28 := by unfold hangF; rw [if_pos h1]
    rw [decide_eq_true (show 4352 ≤ a ∧ a < 4352 + 19 by omega), decide_eq_true (show 4449 ≤ b ∧ b < 4449 + 21 by omega)]
    simp only [cond_true, bind_some']
    rw [w32 (x := a - 4352) (by omega) (by omega), w32 (x := (a - 4352) * 21) (by omega) (by omega), w32 (x := (a - 4352) * 21 + b) (by omega) (by omega), w32 (x := (a - 4352) * 21 + b - 4449) (by omega) (by omega), w32 (x := ((a - 4352) * 21 + b - 4449) * 28) (by omega) (by omega), w32 (by omega) (by omega), if_pos (by omega), e]
    congr 2
    omega
  · have k1 : (Option.bind (some (decide (4352 ≤ a ∧ a < 4352 + 19))) fun y7 => bif y7 then Option.bind (some (decide (4449 ≤ b ∧ b < 4449 + 21))) fun y8 => some y8 else some false) = some false := by
      by_cases h : 4352 ≤ a ∧ a < 4352 + 19
      · rw [decide_eq_true h]
        simp only [bind_some', cond_true]
        rw [decide_eq_false (by omega)]
      · rw [decide_eq_false h]; rfl
    simp only [bind_some'] at k1
    rw [k1]
    simp only [bind_some', cond_false]
    by_cases h2 : 44032 ≤ a ∧ a ≤ 55203 ∧ (a - 44032) % 28 = 0 ∧ 4520 ≤ b ∧ b ≤ 4546
    · have e : hangF a b = a + b - 4519 := by unfold hangF; rw [if_neg h1, if_pos h2]
      rw [decide_eq_true (show 44032 ≤ a ∧ a < 44032 + 11172 by omega), decide_eq_true (show 4520 ≤ b ∧ b < 4520 + 27 by omega)]
      simp only [cond_true, bind_some']
      rw [w32 (x := a - 44032) (by omega) (by omega), Int.tmod_eq_emod_of_nonneg (by omega), h2.2.2.1]
      simp only [beq_self_eq_true, cond_true, bind_some']
      rw [w32 (x := a + b) (by omega) (by omega), w32 (by omega) (by omega), if_pos (by omega), e]
    · have e : hangF a b = -1 := by unfold hangF; rw [if_neg h1, if_neg h2]
      rw [if_neg (by omega)]
      by_cases h3 : 44032 ≤ a ∧ a < 44032 + 11172
      · rw [decide_eq_true h3]
        simp only [cond_true, bind_some']
        rw [w32 (x := a - 44032) (by omega) (by omega), Int.tmod_eq_emod_of_nonneg (by omega)]
        by_cases h4 : (a - 44032) % 28 = 0
        · rw [h4, beq_self_eq_true]
          simp only [cond_true, bind_some']
          rw [decide_eq_false (by omega)]
          rfl
        · rw [beq_false_of_ne h4]
          rfl
      · rw [decide_eq_false h3]
        rfl
/-- The row that composes two runes. -/
def rowPair (t : T_api_Norm) (a b : Int) : Option Int := firstSome (fun i => if compB t i = true ∧ (t.f_Rows.getD i d_api_Row).f_To.getD 0 0 = a ∧ (t.f_Rows.getD i d_api_Row).f_To.getD 1 0 = b then some (t.f_Rows.getD i d_api_Row).f_From else none) t.f_Rows.length 0
/-- What two runes compose to; -1: nothing. -/
def pairF (t : T_api_Norm) (a b : Int) : Int := if 0 ≤ hangF a b then hangF a b else (rowPair t a b).getD (-1)
theorem Good.from_pos {t : T_api_Norm} (g : Good t) {i : Nat} (hi : i < t.f_Rows.length) : 0 ≤ (t.f_Rows.getD i d_api_Row).f_From := by
  have h := g.sound.row i hi
  unfold rowE at h
  split at h
  · cases h
  · rename_i h1
    simp only [Bool.or_eq_true, Bool.not_eq_true', not_or, Bool.not_eq_false] at h1
    have := h1.1
    unfold rightB at this
    simp only [Bool.and_eq_true, decide_eq_true_eq] at this
    omega
theorem rowPair_pos {t : T_api_Norm} (g : Good t) {a b x : Int} (h : rowPair t a b = some x) : 0 ≤ x := by
  obtain ⟨j, _, hj, h1, _⟩ := firstSome_some h
  split at h1
  · cases h1; exact g.from_pos (by omega)
  · cases h1
theorem pair_prog {t : T_api_Norm} (g : Good t) {a b : Int} (ha : r32 a) (hb : r32 b) : m_comp_Pair t a b = some (if 0 ≤ pairF t a b then (pairF t a b, true) else (0, false)) := by
  have hn := g.sound.len
  unfold m_comp_Pair
  rw [chang_eq ha hb, bind_some']
  by_cases h : 0 ≤ hangF a b
  · simp only [if_pos h, cond_true]
    have e : pairF t a b = hangF a b := if_pos h
    rw [e, if_pos h]
  · simp only [if_neg h, cond_false]
    have e : pairF t a b = (rowPair t a b).getD (-1) := if_neg h
    rw [e]
    rw [iter_scan t.f_Rows.length (fun i => if compB t i = true ∧ (t.f_Rows.getD i d_api_Row).f_To.getD 0 0 = a ∧ (t.f_Rows.getD i d_api_Row).f_To.getD 1 0 = b then some ((t.f_Rows.getD i d_api_Row).f_From, true) else none) (fun i hi _ => ?_) (fun _ => ?_), bind_some']
    · have hm : firstSome (fun i => if compB t i = true ∧ (t.f_Rows.getD i d_api_Row).f_To.getD 0 0 = a ∧ (t.f_Rows.getD i d_api_Row).f_To.getD 1 0 = b then some ((t.f_Rows.getD i d_api_Row).f_From, true) else none) t.f_Rows.length 0 = (rowPair t a b).map fun x => (x, true) := by
        unfold rowPair
        rw [← firstSome_map]
        refine firstSome_congr fun j _ _ => ?_
        split <;> rfl
      rw [hm]
      cases hp : rowPair t a b with
      | none => rfl
      | some x =>
        have := rowPair_pos g hp
        simp only [Option.map_some, scanX, Option.getD_some, if_pos this]
    · have hto := (rowE_to (g.sound.row i hi)).1
      unfold m_comp_Pair_L6 m_comp_Pair_K9
      rw [decide_eq_true (by omega), cond_true, if_pos ⟨by omega, by omega⟩, pos_toNat]
      by_cases h2 : (t.f_Rows.getD i d_api_Row).f_To.length = 2
      · rw [show ((((t.f_Rows.getD i d_api_Row).f_To.length : Nat) : Int) == 2) = true by rw [h2]; rfl, cond_true, if_pos ⟨by omega, by omega⟩]
        by_cases ea : (t.f_Rows.getD i d_api_Row).f_To.getD 0 0 = a
        · rw [ea, beq_self_eq_true, cond_true, if_pos ⟨by omega, by omega⟩]
          by_cases eb : (t.f_Rows.getD i d_api_Row).f_To.getD 1 0 = b
          · rw [eb, beq_self_eq_true, cond_true, dcomp_eq t i hi hn ⟨g.cord, g.clen⟩ g.r4.exc g.exR]
            simp only [bind_some']
            cases hc : compB t i with
            | true => simp
            | false => simp [up (show i < 9223372036854775807 by omega)]
          · rw [beq_false_of_ne eb, cond_false, bind_some', cond_false, if_neg (fun h => eb h.2.2), up (by omega)]
        · rw [beq_false_of_ne ea, cond_false, bind_some', cond_false, if_neg (fun h => ea h.2.1), up (by omega)]
      · rw [beq_false_of_ne (show (((t.f_Rows.getD i d_api_Row).f_To.length : Nat) : Int) ≠ 2 by omega), cond_false, bind_some', cond_false, if_neg (fun h => h2 (comp_two h.1)), up (by omega)]
    · unfold m_comp_Pair_L6
      rw [decide_eq_false (by omega)]
      rfl
theorem ref_inner {a b : Int} (k : Nat) (hk : k ≤ 18) : iter (m_eponymref05_Pair_L27 a b (44032 + 588 * (k : Int))) 0 = some (if a = 4352 + (k : Int) ∧ 4449 ≤ b ∧ b ≤ 4469 then .inr (44032 + 588 * (k : Int) + 28 * (b - 4449)) else .inl ()) := by
  have e0 : IntKind.wrap .i32 (44032 + 588 * (k : Int) - 44032) = 588 * (k : Int) := by rw [w32 (by omega) (by omega)]; omega
  have e1 : Int.tdiv (588 * (k : Int)) 588 = (k : Int) := by rw [Int.tdiv_eq_ediv_of_nonneg (by omega)]; omega
  rw [iter_scan 21 (fun v => if a = 4352 + (k : Int) ∧ b = 4449 + (v : Int) then some (44032 + 588 * (k : Int) + 28 * (v : Int)) else none) (fun v hv _ => ?_) (fun _ => ?_)]
  · by_cases h : a = 4352 + (k : Int) ∧ 4449 ≤ b ∧ b ≤ 4469
    · rw [if_pos h]
      obtain ⟨v, hv⟩ : ∃ v : Nat, b = 4449 + (v : Int) := ⟨(b - 4449).toNat, by omega⟩
      rw [firstSome_at (j := v) (v := 44032 + 588 * (k : Int) + 28 * (v : Int)) (by omega) (by omega) (by rw [if_pos ⟨h.1, hv⟩]) (fun j _ hj => by rw [if_neg (by omega)])]
      simp only [scanX]
      congr 2
      omega
    · rw [if_neg h, firstSome_none.2 (fun j _ hj => by rw [if_neg (by omega)])]
      rfl
  · unfold m_eponymref05_Pair_L27 m_eponymref05_Pair_K30
    rw [decide_eq_true (by omega), cond_true, e0, e1, w32 (x := (k : Int)) (by omega) (by omega), w32 (x := 4352 + (k : Int)) (by omega) (by omega), w32 (x := 4449 + (v : Int)) (by omega) (by omega), w32 (x := 28 * (v : Int)) (by omega) (by omega), w32 (x := 44032 + 588 * (k : Int) + 28 * (v : Int)) (by omega) (by omega), w32 (x := (v : Int) + 1) (by omega) (by omega)]
    by_cases ea : a = 4352 + (k : Int)
    · rw [← ea, beq_self_eq_true]
      simp only [cond_true, bind_some']
      by_cases eb : b = 4449 + (v : Int)
      · rw [eb, beq_self_eq_true]; simp
      · rw [beq_false_of_ne eb]; simp [eb]
    · rw [beq_false_of_ne ea]
      simp [ea]
  · unfold m_eponymref05_Pair_L27
    rw [decide_eq_false (by omega)]
    rfl
theorem ref_outer {a b : Int} : ∀ (d k : Nat), k + d = 19 → (a < 4352 ∨ 4370 < a ∨ 4352 + (k : Int) ≤ a ∨ ¬ (4449 ≤ b ∧ b ≤ 4469)) →
    iter (m_eponymref05_Pair_L19 a b) (44032 + 588 * (k : Int)) = some (if 4352 ≤ a ∧ a ≤ 4370 ∧ 4449 ≤ b ∧ b ≤ 4469 then .inr (44032 + ((a - 4352) * 21 + (b - 4449)) * 28) else .inl ()) := by
  intro d
  induction d with
  | zero =>
    intro k hk h
    have body : m_eponymref05_Pair_L19 a b (44032 + 588 * (k : Int)) = some (.done (.inl ())) := by
      unfold m_eponymref05_Pair_L19 m_eponymref05_Pair_K22
      rw [decide_eq_false (show ¬ (44032 + 588 * (k : Int) ≤ 55203) by omega)]
      cases decide (a ≥ 4352) <;> cases decide (a ≤ 4370) <;> rfl
    rw [iter_step, body, if_neg (by omega)]
  | succ d ih =>
    intro k hk h
    by_cases hr : 4352 ≤ a ∧ a ≤ 4370
    · have inner := ref_inner (a := a) (b := b) k (by omega)
      have body : m_eponymref05_Pair_L19 a b (44032 + 588 * (k : Int)) = some (if a = 4352 + (k : Int) ∧ 4449 ≤ b ∧ b ≤ 4469 then .done (.inr (44032 + 588 * (k : Int) + 28 * (b - 4449))) else .next (44032 + 588 * ((k + 1 : Nat) : Int))) := by
        unfold m_eponymref05_Pair_L19 m_eponymref05_Pair_K22
        rw [decide_eq_true (show a ≥ 4352 from hr.1), decide_eq_true (show a ≤ 4370 from hr.2), decide_eq_true (show (44032 + 588 * (k : Int) ≤ 55203) by omega)]
        simp only [cond_true, bind_some', inner]
        by_cases hh : a = 4352 + (k : Int) ∧ 4449 ≤ b ∧ b ≤ 4469
        · rw [if_pos hh, if_pos hh]
        · rw [if_neg hh, if_neg hh]
          simp only
          rw [w32 (by omega) (by omega)]
          congr 2
      rw [iter_step, body]
      by_cases hh : a = 4352 + (k : Int) ∧ 4449 ≤ b ∧ b ≤ 4469
      · rw [if_pos hh, if_pos (by omega)]
        simp only
        congr 2
        omega
      · rw [if_neg hh]
        exact ih (k + 1) (by omega) (by omega)
    · have body : m_eponymref05_Pair_L19 a b (44032 + 588 * (k : Int)) = some (.done (.inl ())) := by
        unfold m_eponymref05_Pair_L19 m_eponymref05_Pair_K22
        by_cases h1 : a ≥ 4352
        · rw [decide_eq_true h1, decide_eq_false (show ¬ a ≤ 4370 by omega)]; rfl
        · rw [decide_eq_false h1]; rfl
      rw [iter_step, body, if_neg (by omega)]
theorem pair_ref {t : T_api_Norm} (g : Good t) {a b : Int} (ha : r32 a) (hb : r32 b) : m_eponymref05_Pair t a b = some (pairF t a b) := by
  have hn := g.sound.len
  have he := g.r4.exc
  have hc := g.clen
  unfold m_eponymref05_Pair
  have o := ref_outer (a := a) (b := b) 19 0 rfl (by omega)
  simp only [Int.natCast_zero, Int.mul_zero, Int.add_zero] at o
  rw [o, bind_some']
  by_cases h1 : 4352 ≤ a ∧ a ≤ 4370 ∧ 4449 ≤ b ∧ b ≤ 4469
  · rw [if_pos h1]
    have e : hangF a b = 44032 + ((a - 4352) * 21 + (b - 4449)) * 28 := by unfold hangF; rw [if_pos h1]
    have : pairF t a b = hangF a b := if_pos (by rw [e]; omega)
    rw [this, e]
  · rw [if_neg h1]
    simp only
    unfold m_eponymref05_Pair_K2 m_eponymref05_Pair_K4
    unfold r32 at ha hb
    by_cases h2 : 44032 ≤ a ∧ a ≤ 55203 ∧ (a - 44032) % 28 = 0 ∧ 4520 ≤ b ∧ b ≤ 4546
    · have e : hangF a b = a + b - 4519 := by unfold hangF; rw [if_neg h1, if_pos h2]
      have : pairF t a b = hangF a b := if_pos (by rw [e]; omega)
      rw [this, e, decide_eq_true (show a ≥ 44032 from h2.1), decide_eq_true h2.2.1, w32 (x := a - 44032) (by omega) (by omega), Int.tmod_eq_emod_of_nonneg (by omega), h2.2.2.1, beq_self_eq_true, decide_eq_true (show b ≥ 4520 from h2.2.2.2.1), decide_eq_true h2.2.2.2.2]
      simp only [cond_true, bind_some']
      rw [w32 (x := a + b) (by omega) (by omega), w32 (by omega) (by omega)]
    · have e : hangF a b = -1 := by unfold hangF; rw [if_neg h1, if_neg h2]
      have : pairF t a b = (rowPair t a b).getD (-1) := if_neg (by rw [e]; omega)
      rw [this]
      have k1 : (bif decide (a ≥ 44032) then bif decide (a ≤ 55203) then bif (Int.tmod (IntKind.wrap .i32 (a - 44032)) 28 == 0) then bif decide (b ≥ 4520) then some (decide (b ≤ 4546)) else some false else some false else some false else some false) = some false := by
        by_cases g1 : a ≥ 44032
        · rw [decide_eq_true g1, cond_true]
          by_cases g2 : a ≤ 55203
          · rw [decide_eq_true g2, cond_true, w32 (x := a - 44032) (by omega) (by omega), Int.tmod_eq_emod_of_nonneg (by omega)]
            by_cases g3 : (a - 44032) % 28 = 0
            · rw [g3, beq_self_eq_true, cond_true]
              by_cases g4 : b ≥ 4520
              · rw [decide_eq_true g4, cond_true, decide_eq_false (by omega)]
              · rw [decide_eq_false g4]; rfl
            · rw [beq_false_of_ne g3]; rfl
          · rw [decide_eq_false g2]; rfl
        · rw [decide_eq_false g1]; rfl
      rw [k1, bind_some', cond_false]
      rw [iter_scan t.f_Rows.length (fun i => if compB t i = true ∧ (t.f_Rows.getD i d_api_Row).f_To.getD 0 0 = a ∧ (t.f_Rows.getD i d_api_Row).f_To.getD 1 0 = b then some (t.f_Rows.getD i d_api_Row).f_From else none) (fun i hi _ => ?_) (fun _ => ?_), bind_some']
      · unfold rowPair
        cases firstSome (fun i => if compB t i = true ∧ (t.f_Rows.getD i d_api_Row).f_To.getD 0 0 = a ∧ (t.f_Rows.getD i d_api_Row).f_To.getD 1 0 = b then some (t.f_Rows.getD i d_api_Row).f_From else none) t.f_Rows.length 0 <;> rfl
      · unfold m_eponymref05_Pair_L9 m_eponymref05_Pair_K12
        rw [decide_eq_true (by omega), cond_true, comp_eq t i hi hn he hc, pos_toNat]
        simp only [bind_some']
        cases hcb : compB t i with
        | false =>
          simp only [cond_false, bind_some']
          rw [if_neg (fun h => by cases h.1), up (by omega)]
        | true =>
          have hto := comp_two hcb
          simp only [cond_true, bind_some']
          rw [if_pos ⟨by omega, by omega⟩, if_pos ⟨by omega, by omega⟩]
          by_cases ea : (t.f_Rows.getD i d_api_Row).f_To.getD 0 0 = a
          · rw [ea, beq_self_eq_true, cond_true, if_pos ⟨by omega, by omega⟩, if_pos ⟨by omega, by omega⟩, bind_some']
            by_cases eb : (t.f_Rows.getD i d_api_Row).f_To.getD 1 0 = b
            · rw [eb, beq_self_eq_true, cond_true, if_pos ⟨by omega, by omega⟩]
              simp
            · rw [beq_false_of_ne eb, cond_false, if_neg (fun h => eb h.2.2), up (by omega)]
          · rw [beq_false_of_ne ea, cond_false, bind_some', cond_false, if_neg (fun h => ea h.2.1), up (by omega)]
      · unfold m_eponymref05_Pair_L9
        rw [decide_eq_false (by omega)]
        rfl
end Go.Proofs.Ytjhgaacecfmadaa
