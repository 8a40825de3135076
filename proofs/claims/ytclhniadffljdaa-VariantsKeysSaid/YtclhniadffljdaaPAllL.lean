/- The laws of variants.All and of keys. No condition. -/
import Derived.Test.YtclhniadffljdaaPKeys
import Derived.Test.YtclhniadffljdaaPSeq
namespace Go.Proofs.Ytclhniadffljdaa
open Go Go.SE
set_option linter.unusedVariables false
set_option linter.unusedSimpArgs false
theorem all_demo : m_variants_All demo19 [97, 98] 9 = some [[97, 98], [224, 98]] := by
  rw [all_eq demo19 demo19_small demo19_rise [97, 98] (by decide) 9 (by decide)]
  decide
theorem law_variantsKeys' (f : T_api_Family) (a b : List Int) : m_eponymlaw19_VariantsKeys f a b = some true := law_variantsKeys all_demo f a b
/-! ### A variant by its number -/
def rowR (f : T_api_Family) : List Int → Nat → List Int
  | [], _ => []
  | r :: rs, k => (wheelF f r).getD (k % (wheelF f r).length) 0 :: rowR f rs (k / (wheelF f r).length)
theorem rowR_zip (f : T_api_Family) : ∀ (rs : List Int) (k : Nat), rowR f rs k = List.zipWith (fun w d => w.getD d 0) (rs.map (wheelF f)) (digR (rs.map fun r => (wheelF f r).length) k)
  | [], k => rfl
  | r :: rs, k => by
    rw [rowR, rowR_zip f rs]; rfl
theorem rowR_rowK (f : T_api_Family) (l : List Int) (k : Nat) : (rowR f l.reverse k).reverse = rowK (wheels f l) k := by
  have h1 : ((digR (nsOf (wheels f l)) k).reverse).length = (wheels f l).length := by simp [digR_len, nsOf]
  have h2 : nsOf (wheels f l) = l.reverse.map fun r => (wheelF f r).length := by simp [nsOf, wheels, List.map_reverse, List.map_map, Function.comp_def]
  rw [rowR_zip, rowK, rowF, digK, List.reverse_zipWith (by simp [digR_len]), h2]
  congr 1
  simp [wheels, List.map_reverse]
theorem variant_eq (f : T_api_Family) (hs : Small f) (l : List Int) (hl : l.length ≤ 1000) (k : Nat) (hk : k < 4611686018427387904) : m_eponymref19_Variant f l (k : Int) = some (rowK (wheels f l) k) := by
  have key : ∀ (rs dn tail : List Int) (k : Nat), k < 4611686018427387904 → l = rs.reverse ++ tail → dn.length = tail.length → iter (m_eponymref19_Variant_L5 f l) ((k : Int), rs.reverse ++ dn, (rs.length : Int) - 1) = some ((rowR f rs k).reverse ++ dn) := by
    intro rs
    induction rs with
    | nil =>
      intro dn tail k _ _ _
      refine iter_done ?_
      unfold m_eponymref19_Variant_L5
      simp only [List.length_nil]
      rw [decide_eq_false (by omega)]; rfl
    | cons r rs ih =>
      intro dn tail k hk hl' hd
      have hlen : l.length = rs.length + 1 + tail.length := by rw [hl']; simp; omega
      have hl2 : l = rs.reverse ++ r :: tail := by rw [hl']; simp
      have hg : l.getD rs.length 0 = r := by rw [hl2]; exact getD_mid (by simp)
      have hidx : (((r :: rs).length : Nat) : Int) - 1 = ((rs.length : Nat) : Int) := by simp
      have e0 : (r :: rs).reverse ++ dn = rs.reverse ++ r :: dn := by simp
      have e1 : (rowR f (r :: rs) k).reverse ++ dn = (rowR f rs (k / (wheelF f r).length)).reverse ++ ((wheelF f r).getD (k % (wheelF f r).length) 0 :: dn) := by simp [rowR]
      have hwp := wheel_pos f r
      have hq : k / (wheelF f r).length ≤ k := Nat.div_le_self _ _
      rw [e0, hidx, e1, ← ih ((wheelF f r).getD (k % (wheelF f r).length) 0 :: dn) (r :: tail) (k / (wheelF f r).length) (by omega) hl2 (by simp [hd])]
      refine iter_next ?_
      have hsl := set_len hs r
      unfold m_eponymref19_Variant_L5
      simp only [Int.toNat_natCast]
      rw [decide_eq_true (by omega), cond_true, if_pos ⟨by omega, by omega⟩, hg, refSet_eq f hs, bind_some', w64 (x := ((rs.length : Nat) : Int) - 1) (by omega) (by omega)]
      by_cases h0 : (setF f r).length = 0
      · have hw : wheelF f r = [r] := by unfold wheelF; rw [if_pos h0]
        rw [decide_eq_false (by omega), cond_false, hw]
        simp only [List.length_cons, List.length_nil, Nat.zero_add, Nat.mod_one, Nat.div_one]
        rfl
      · have hw : wheelF f r = setF f r := by unfold wheelF; rw [if_neg h0]
        have hpos : 0 < (setF f r).length := by omega
        have hmod := Nat.mod_lt k hpos
        have hm : Int.tmod (k : Int) (((setF f r).length : Nat) : Int) = ((k % (setF f r).length : Nat) : Int) := by rw [Int.tmod_eq_emod_of_nonneg (by omega)]; omega
        have hdv : Int.tdiv (k : Int) (((setF f r).length : Nat) : Int) = ((k / (setF f r).length : Nat) : Int) := by rw [Int.tdiv_eq_ediv_of_nonneg (by omega)]; omega
        rw [hw] at hq ⊢
        rw [decide_eq_true (by omega), cond_true, if_pos (by omega), hm, if_pos ⟨by omega, by omega⟩, if_pos ⟨by omega, by simp; omega⟩, if_pos (by omega), hdv, set_mid (by simp), Int.toNat_natCast]
        generalize k / (setF f r).length = q at hq
        rw [w64 (x := ((q : Nat) : Int)) (by omega) (by omega)]
  unfold m_eponymref19_Variant
  rw [if_pos (by omega), w64 (by omega) (by omega)]
  have := key l.reverse [] [] k hk (by simp) rfl
  rw [List.append_nil, List.reverse_reverse, List.append_nil, rowR_rowK, List.length_reverse] at this
  rw [this]; rfl
/-! ### Counts and totals -/
theorem cnt_total (f : T_api_Family) : ∀ (l : List Int) (n : Nat), n ≤ 1073741824 → cntF f l (n : Int) = ((min (n * prodL (l.map fun r => (wheelF f r).length)) 1073741824 : Nat) : Int)
  | [], n, h => by
    have : min (n * prodL ([].map fun r => (wheelF f r).length)) 1073741824 = n := by show min (n * 1) 1073741824 = n; omega
    rw [this]; rfl
  | r :: l, n, h => by
    have hm : max (((setF f r).length : Nat) : Int) 1 = (((wheelF f r).length : Nat) : Int) := by
      unfold wheelF
      split
      · rename_i h0; rw [h0]; rfl
      · omega
    have hwp := wheel_pos f r
    have e : min ((n : Int) * max (((setF f r).length : Nat) : Int) 1) 1073741824 = ((min (n * (wheelF f r).length) 1073741824 : Nat) : Int) := by rw [hm]; push_cast; omega
    have hp : prodL ((r :: l).map fun r => (wheelF f r).length) = (wheelF f r).length * prodL (l.map fun r => (wheelF f r).length) := rfl
    have hpp : 0 < prodL (l.map fun r => (wheelF f r).length) := prodL_pos _ fun n hn => by
      obtain ⟨r, _, rfl⟩ := List.mem_map.1 hn
      exact wheel_pos f r
    rw [cntF, e, cnt_total f l _ (by omega), hp, ← Nat.mul_assoc]
    congr 1
    generalize prodL (l.map fun r => (wheelF f r).length) = p at hpp
    generalize n * (wheelF f r).length = q
    by_cases hq : q ≤ 1073741824
    · rw [Nat.min_eq_left hq]
    · have h1 : min q 1073741824 = 1073741824 := by omega
      have h2 : 1073741824 ≤ 1073741824 * p := Nat.le_mul_of_pos_right _ hpp
      have h3 : q ≤ q * p := Nat.le_mul_of_pos_right _ hpp
      rw [h1]; omega
theorem total_eq (f : T_api_Family) (l : List Int) : total (wheels f l) = prodL (l.map fun r => (wheelF f r).length) := by
  unfold total nsOf
  rw [prod_rev]; simp [wheels, List.map_map, Function.comp_def]
theorem cnt_eq (f : T_api_Family) (l : List Int) : cntF f l 1 = ((min (total (wheels f l)) 1073741824 : Nat) : Int) := by
  have := cnt_total f l 1 (by decide)
  rw [Nat.one_mul, ← total_eq] at this
  exact this
theorem rowK_len (f : T_api_Family) (l : List Int) (k : Nat) : (rowK (wheels f l) k).length = l.length := by
  unfold rowK
  rw [rowF_len (digK_len _ _)]
  simp [wheels]
theorem law_variantsAll (f : T_api_Family) (l : List Int) (most : Int) : m_eponymlaw19_VariantsAll f l most = some true := by
  unfold m_eponymlaw19_VariantsAll
  rw [awake19 all_demo, bind_some']
  obtain ⟨g, hg, hsm⟩ := great19 f
  rw [hg]
  simp only [Bool.not_true, cond_false, bind_some']
  have yes : m_eponymlaw19_VariantsAll_K3 f l most true = some true := rfl
  cases g with
  | true => exact yes
  | false =>
    obtain ⟨hs, hn⟩ := hsm rfl
    obtain ⟨y, hy, hrise⟩ := check19 f hs hn
    unfold m_eponymlaw19_Right
    rw [cond_false, hy]
    simp only [bind_some']
    by_cases h0 : y.2 = 0
    · have hr := hrise h0
      rw [h0]
      simp only [beq_self_eq_true, Bool.not_true, cond_false]
      by_cases ha : 20 < l.length
      · rw [decide_eq_true (show ((l.length : Nat) : Int) > 20 by omega)]; exact yes
      · rw [decide_eq_false (show ¬ ((l.length : Nat) : Int) > 20 by omega), cond_false, bind_some']
        by_cases hb : most > 100
        · rw [decide_eq_true hb]; exact yes
        · rw [decide_eq_false hb]
          unfold m_eponymlaw19_VariantsAll_K3
          have hw := wh_wheels hs (l := l) (by omega)
          have htp := total_pos hw
          rw [cond_false, all_eq f hs hr l (by omega) most (by omega), bind_some', (count_eq f hs hr l (by omega)).2, bind_some', cnt_eq]
          obtain ⟨n, hn⟩ : ∃ n, min (total (wheels f l)) most.toNat = n := ⟨_, rfl⟩
          rw [hn]
          have hlen : ((List.range n).map (rowK (wheels f l))).length = n := by simp
          have hgd : ∀ i, i < n → ((List.range n).map (rowK (wheels f l))).getD i [] = rowK (wheels f l) i := fun i hi => by simp [List.getD_eq_getElem?_getD, hi]
          generalize (List.range n).map (rowK (wheels f l)) = rows at hlen hgd
          rw [hlen, show (((n : Nat) : Int) != min (max most 0) ((min (total (wheels f l)) 1073741824 : Nat) : Int)) = false by simp; omega, cond_false]
          have hloop : iter (m_eponymlaw19_VariantsAll_L21 f l rows) (0 : Int) = some (.inl ()) := by
            rw [iter_scan n (fun _ => none) (fun i hi _ => ?_) (fun _ => ?_)]
            · rw [firstSome_none.2 fun _ _ _ => rfl]; rfl
            · unfold m_eponymlaw19_VariantsAll_L21
              rw [hlen, decide_eq_true (by omega), cond_true, if_pos ⟨by omega, by omega⟩, variant_eq f hs l (by omega) i (by omega), bind_some', Int.toNat_natCast, hgd i hi, same_eq _ _ (by rw [rowK_len]; omega), decide_eq_true rfl, up (by omega)]
              rfl
            · unfold m_eponymlaw19_VariantsAll_L21
              rw [hlen, decide_eq_false (by omega)]; rfl
          rw [hloop, bind_some']
          simp only
          unfold m_eponymlaw19_VariantsAll_K7
          rw [seq_eq f hs hr l (by omega), bind_some', init_eq hw, bind_some']
          have hrange : ∀ (q k : Nat), k + q = n → k < total (wheels f l) → ∃ z, iter (rangeB (m_variants_Seq_1_it (wheels f l)) (m_eponymlaw19_VariantsAll_L17 rows)) (toI (digK (nsOf (wheels f l)) k), ((k : Int), true)) = some z ∧ (z = .inl ((n : Int), true) ∨ z = .inr ((n : Int), true)) := by
            intro q
            induction q with
            | zero =>
              intro k hk hkt
              obtain rfl : k = n := by omega
              refine ⟨_, range_done (r := ((k : Int), true)) hw hkt ?_, .inr rfl⟩
              unfold m_eponymlaw19_VariantsAll_L17
              simp only
              rw [hlen, decide_eq_true (by omega)]; rfl
            | succ q ih =>
              intro k hk hkt
              have hcb : m_eponymlaw19_VariantsAll_L17 rows (rowK (wheels f l) k) ((k : Int), true) = some (.next (((k + 1 : Nat) : Int), true)) := by
                unfold m_eponymlaw19_VariantsAll_L17
                simp only [Int.toNat_natCast]
                rw [hlen, decide_eq_false (by omega), cond_false, cond_true, if_pos ⟨by omega, by omega⟩, hgd k (by omega), same_eq _ _ (by rw [rowK_len]; omega), decide_eq_true rfl, up (by omega)]
                rfl
              rw [range_next hw hkt hcb]
              by_cases hl : k + 1 < total (wheels f l)
              · rw [if_pos hl]; exact ih (k + 1) (by omega) hl
              · rw [if_neg hl]
                have : n = k + 1 := by omega
                rw [this]
                exact ⟨_, rfl, .inl rfl⟩
          obtain ⟨z, hz, hz'⟩ := hrange n 0 (by omega) htp
          rw [show ((0 : Int), true) = (((0 : Nat) : Int), true) from rfl, hz]
          have fin : m_eponymlaw19_VariantsAll_K9 rows ((n : Int), true) = some true := by
            unfold m_eponymlaw19_VariantsAll_K9
            rw [hlen]; simp
          rcases hz' with rfl | rfl <;> exact fin
    · rw [beq_false_of_ne h0]; exact yes
end Go.Proofs.Ytclhniadffljdaa
