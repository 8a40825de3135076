/- variants.Seq, plain: the wheels, the rows in their order, loops over them. No condition. -/
import Derived.Test.YtclhniadffljdaaPVar
import Derived.Test.YtclhniadffljdaaPOdo
namespace Go.Proofs.Ytclhniadffljdaa
open Go Go.SE
set_option linter.unusedVariables false
set_option linter.unusedSimpArgs false
theorem vset_eq (f : T_api_Family) (hs : Small f) (hr : ∀ x ∈ f.f_Sets, risingL x) (r : Int) : m_variants_Set f r = some (setF f r) := by
  have hl := set_len hs r
  unfold m_variants_Set m_slices_Clone_rune_rune m_slices_Clone_rune_rune_som
  rw [vfind_eq f hs hr, bind_some', if_pos (by omega)]; rfl
/-- A rune's wheel: its set, or itself alone. -/
def wheelF (f : T_api_Family) (r : Int) : List Int := if (setF f r).length = 0 then [r] else setF f r
def wheels (f : T_api_Family) (l : List Int) : List (List Int) := l.map (wheelF f)
theorem wheel_pos (f : T_api_Family) (r : Int) : 0 < (wheelF f r).length := by
  unfold wheelF; split
  · exact Nat.one_pos
  · omega
theorem wheel_len {f : T_api_Family} (hs : Small f) (r : Int) : (wheelF f r).length ≤ 20 := by
  unfold wheelF; split
  · exact (by decide : 1 ≤ 20)
  · exact set_len hs r
theorem set_mid {α : Type} {A B : List α} {x y : α} {i : Nat} (h : A.length = i) : (A ++ x :: B).set i y = A ++ y :: B := by
  rw [List.set_append_right _ _ (by omega), h, Nat.sub_self, List.set_cons_zero]
theorem getD_mid {α : Type} {A B : List α} {x d : α} {i : Nat} (h : A.length = i) : (A ++ x :: B).getD i d = x := by
  rw [List.getD_eq_getElem?_getD, List.getElem?_append_right (by omega), h, Nat.sub_self]; rfl
theorem seq_eq (f : T_api_Family) (hs : Small f) (hr : ∀ x ∈ f.f_Sets, risingL x) (l : List Int) (hl : l.length ≤ 1000) : m_variants_Seq f l = some (wheels f l) := by
  have key : ∀ (k i : Nat), i + k = l.length → iter (m_variants_Seq_L5 f l) ((l.take i).map (wheelF f) ++ List.replicate k [], (i : Int)) = some (wheels f l) := by
    intro k
    induction k with
    | zero =>
      intro i hi
      obtain rfl : i = l.length := by omega
      refine iter_done ?_
      unfold m_variants_Seq_L5
      simp only
      rw [decide_eq_false (by omega), List.take_length]; simp [wheels]
    | succ k ih =>
      intro i hi
      have hil : i < l.length := by omega
      rw [← ih (i + 1) (by omega)]
      refine iter_next ?_
      have hA : ((l.take i).map (wheelF f)).length = i := by simp; omega
      have e : (l.take i).map (wheelF f) ++ wheelF f (l.getD i 0) :: List.replicate k [] = (l.take (i + 1)).map (wheelF f) ++ List.replicate k [] := by
        have e1 : l.getD i 0 = l[i] := by simp [List.getD_eq_getElem?_getD, hil]
        rw [List.take_succ_eq_append_getElem hil, List.map_append, List.map_cons, List.map_nil, e1, List.append_assoc]; rfl
      unfold m_variants_Seq_L5
      simp only [Int.toNat_natCast]
      rw [decide_eq_true (by omega), cond_true, if_pos ⟨by omega, by omega⟩, vset_eq f hs hr, bind_some', List.replicate_succ, if_pos ⟨by omega, by simp; omega⟩, bind_some', set_mid hA]
      unfold m_variants_Seq_K8
      simp only [Int.toNat_natCast]
      rw [getD_mid hA, if_pos ⟨by omega, by simp; omega⟩, up (by omega)]
      rw [← e]
      by_cases h0 : (setF f (l.getD i 0)).length = 0
      · have hw : wheelF f (l.getD i 0) = [l.getD i 0] := by unfold wheelF; rw [if_pos h0]
        rw [hw, show ((((setF f (l.getD i 0)).length : Nat) : Int) == 0) = true by rw [h0]; rfl, cond_true, if_pos ⟨by omega, by simp; omega⟩, set_mid hA]
      · have hw : wheelF f (l.getD i 0) = setF f (l.getD i 0) := by unfold wheelF; rw [if_neg h0]
        rw [hw, show ((((setF f (l.getD i 0)).length : Nat) : Int) == 0) = false by simp; exact fun h => h0 (by simp [h]), cond_false]
  have := key l.length 0 (by omega)
  unfold m_variants_Seq
  rw [if_pos ⟨by omega, by omega, by omega⟩]
  simp only [List.take_zero, List.map_nil, List.nil_append] at this
  rw [show (0 : Int) = ((0 : Nat) : Int) from rfl, this]; rfl
/-! ### Rows -/
def toI (ds : List Nat) : List Int := ds.map fun (d : Nat) => (d : Int)
theorem toI_len (ds : List Nat) : (toI ds).length = ds.length := by simp [toI]
theorem toI_getD (ds : List Nat) (i : Nat) : (toI ds).getD i 0 = ((ds.getD i 0 : Nat) : Int) := by
  simp only [toI, List.getD_eq_getElem?_getD, List.getElem?_map]
  cases ds[i]? <;> rfl
def rowF (ws : List (List Int)) (ds : List Nat) : List Int := List.zipWith (fun w d => w.getD d 0) ws ds
theorem rowF_len {ws : List (List Int)} {ds : List Nat} (h : ds.length = ws.length) : (rowF ws ds).length = ws.length := by simp [rowF, h]
theorem rowF_getD {ws : List (List Int)} {ds : List Nat} (h : ds.length = ws.length) {i : Nat} (hi : i < ws.length) : (rowF ws ds).getD i 0 = (ws.getD i []).getD (ds.getD i 0) 0 := by
  have h1 : ws[i]? = some ws[i] := List.getElem?_eq_getElem hi
  have h2 : ds[i]? = some ds[i] := List.getElem?_eq_getElem (by omega)
  simp only [rowF, List.getD_eq_getElem?_getD, List.getElem?_zipWith, h1, h2, Option.getD_some]
/-- Digits fit their wheels. -/
def Fits (ws : List (List Int)) (ds : List Nat) : Prop := ds.length = ws.length ∧ ∀ i, i < ws.length → ds.getD i 0 < (ws.getD i []).length
structure Wh (ws : List (List Int)) : Prop where
  len : ws.length ≤ 1000
  pos : ∀ w ∈ ws, 0 < w.length ∧ w.length ≤ 1000
theorem row_eq (ws : List (List Int)) (ds : List Nat) (hw : Wh ws) (hf : Fits ws ds) : iter (m_variants_Seq_1_L16 ws (toI ds)) (List.replicate ws.length 0, (0 : Int)) = some (rowF ws ds) := by
  have hw1 := hw.len
  have key : ∀ (k i : Nat), i + k = ws.length → iter (m_variants_Seq_1_L16 ws (toI ds)) ((rowF ws ds).take i ++ List.replicate k 0, (i : Int)) = some (rowF ws ds) := by
    intro k
    induction k with
    | zero =>
      intro i hi
      obtain rfl : i = ws.length := by omega
      refine iter_done ?_
      unfold m_variants_Seq_1_L16
      simp only
      rw [decide_eq_false (by omega), List.take_of_length_le (by rw [rowF_len hf.1]; exact Nat.le_refl _)]; simp
    | succ k ih =>
      intro i hi
      have hil : i < ws.length := by omega
      have hrl := rowF_len hf.1
      rw [← ih (i + 1) (by omega)]
      refine iter_next ?_
      have hA : ((rowF ws ds).take i).length = i := by simp [hrl]; omega
      have e : (rowF ws ds).take i ++ (rowF ws ds).getD i 0 :: List.replicate k 0 = (rowF ws ds).take (i + 1) ++ List.replicate k 0 := by
        have e1 : (rowF ws ds).getD i 0 = (rowF ws ds)[i]'(by omega) := by simp [List.getD_eq_getElem?_getD, show i < (rowF ws ds).length by omega]
        rw [List.take_succ_eq_append_getElem (show i < (rowF ws ds).length by omega), e1, List.append_assoc]; rfl
      have hfi := hf.2 i hil
      unfold m_variants_Seq_1_L16
      simp only [Int.toNat_natCast, toI_getD]
      rw [decide_eq_true (by omega), cond_true, if_pos ⟨by omega, by omega⟩, if_pos ⟨by omega, by rw [toI_len, hf.1]; omega⟩, if_pos ⟨by omega, by omega⟩, List.replicate_succ, if_pos ⟨by omega, by simp [hrl]; omega⟩, set_mid hA, up (by omega), ← rowF_getD hf.1 hil, e]
  have := key ws.length 0 (by omega)
  rwa [List.take_zero, List.nil_append] at this
/-! ### The odometer -/
def nsOf (ws : List (List Int)) : List Nat := (ws.map List.length).reverse
def digK (ns : List Nat) (k : Nat) : List Nat := (digR ns k).reverse
theorem odo (ws : List (List Int)) (hw : Wh ws) : ∀ (ns ds : List Nat) (z : Nat) (tail : List Nat), ns.length = ds.length → ws.map List.length = ns.reverse ++ tail → tail.length = z → (∀ d ∈ ds, d < 1000) →
    Option.bind (iter (m_variants_Seq_1_L9 ws) (toI ds.reverse ++ List.replicate z 0, (ds.length : Int) - 1)) (fun s => m_variants_Seq_1_K6 s) = some (match nextR ns ds with | none => .done () | some ds' => .next (toI ds'.reverse ++ List.replicate z 0))
  | [], [], z, tail, _, he, hz, _ => by
    have hi : iter (m_variants_Seq_1_L9 ws) (toI ([] : List Nat).reverse ++ List.replicate z 0, (([] : List Nat).length : Int) - 1) = some (toI ([] : List Nat).reverse ++ List.replicate z 0, (-1 : Int)) := by
      refine iter_done ?_
      unfold m_variants_Seq_1_L9
      simp only [List.length_nil]
      rw [decide_eq_false (by omega)]; rfl
    rw [hi]; rfl
  | n :: ns, d :: ds, z, tail, hl, he, hz, hds => by
    have hw1 := hw.len
    have hl' : ns.length = ds.length := by simpa using hl
    have hwl : ws.length = ds.length + 1 + z := by
      have := congrArg List.length he
      simp at this; omega
    have he' : ws.map List.length = ns.reverse ++ n :: tail := by rw [he]; simp
    have hn : (ws.getD ds.length []).length = n := by
      have h1 : (ws.map List.length).getD ds.length 0 = n := by rw [he']; exact getD_mid (by simp [hl'])
      have hil : ds.length < ws.length := by omega
      rw [List.getD_eq_getElem?_getD, List.getElem?_map, List.getElem?_eq_getElem hil] at h1
      rw [List.getD_eq_getElem?_getD, List.getElem?_eq_getElem hil]
      exact h1
    have hnp := hw.pos _ (getD_mem (d := ([] : List Int)) (show ds.length < ws.length by omega))
    rw [hn] at hnp
    have hA : (toI ds.reverse).length = ds.length := by simp [toI_len]
    have e0 : toI (d :: ds).reverse ++ List.replicate z 0 = toI ds.reverse ++ (d : Int) :: List.replicate z 0 := by simp [toI]
    have hlen : (toI ds.reverse ++ (d : Int) :: List.replicate z 0).length = ds.length + 1 + z := by simp [toI_len]; omega
    have hidx : (((d :: ds).length : Nat) : Int) - 1 = ((ds.length : Nat) : Int) := by simp
    rw [e0, hidx]
    have hb : m_variants_Seq_1_L9 ws (toI ds.reverse ++ (d : Int) :: List.replicate z 0, ((ds.length : Nat) : Int)) = (if d + 1 = n then some (.next (toI ds.reverse ++ List.replicate (z + 1) 0, (ds.length : Int) - 1)) else some (.done (toI ds.reverse ++ (d : Int) :: List.replicate z 0, ((ds.length : Nat) : Int)))) := by
      unfold m_variants_Seq_1_L9 m_variants_Seq_1_K12
      simp only [Int.toNat_natCast]
      rw [decide_eq_true (by omega), cond_true, if_pos ⟨by omega, by rw [hlen]; omega⟩, if_pos ⟨by omega, by omega⟩, getD_mid hA, hn, bind_some', w64 (x := ((n : Nat) : Int) - 1) (by omega) (by omega)]
      by_cases hd : d + 1 = n
      · rw [if_pos hd, show ((d : Int) == ((n : Nat) : Int) - 1) = true by simp; omega, cond_true, if_pos ⟨by omega, by rw [hlen]; omega⟩, set_mid hA, w64 (by omega) (by omega), List.replicate_succ]
      · rw [if_neg hd, show ((d : Int) == ((n : Nat) : Int) - 1) = false by simp; omega, cond_false]
    rw [nextR]
    by_cases hd : d + 1 = n
    · rw [if_pos hd] at hb ⊢
      rw [iter_next hb]
      have ih := odo ws hw ns ds (z + 1) (n :: tail) hl' he' (by simp [hz]) fun x hx => hds x (by simp [hx])
      rw [ih]
      cases hnx : nextR ns ds with
      | none => rfl
      | some ds' =>
        simp only [Option.map_some]
        congr 2
        simp [toI, List.replicate_succ]
    · rw [if_neg hd] at hb ⊢
      rw [iter_done hb, bind_some']
      unfold m_variants_Seq_1_K6
      simp only [Int.toNat_natCast]
      rw [decide_eq_false (by omega), cond_false, if_pos ⟨by omega, by rw [hlen]; omega⟩, if_pos ⟨by omega, by rw [hlen]; omega⟩, getD_mid hA, set_mid hA]
      have hd1 := hds d (by simp)
      rw [up (by omega)]
      simp [toI]
/-- One more than a number's digits. -/
theorem prod_app : ∀ (a b : List Nat), prodL (a ++ b) = prodL a * prodL b
  | [], b => (Nat.one_mul _).symm
  | n :: a, b => by
    show n * prodL (a ++ b) = n * prodL a * prodL b
    rw [prod_app a b, Nat.mul_assoc]
theorem prod_rev : ∀ (a : List Nat), prodL a.reverse = prodL a
  | [] => rfl
  | n :: a => by
    rw [List.reverse_cons, prod_app, prod_rev a, Nat.mul_comm]
    show n * 1 * prodL a = n * prodL a
    rw [Nat.mul_one]
theorem digR_lt : ∀ (ns : List Nat) (k : Nat), (∀ n ∈ ns, 0 < n) → ∀ i, i < ns.length → (digR ns k).getD i 0 < ns.getD i 0
  | n :: ns, k, h, 0, _ => Nat.mod_lt k (h n (by simp))
  | n :: ns, k, h, i + 1, hi => digR_lt ns (k / n) (fun m hm => h m (by simp [hm])) i (by simpa using hi)
def total (ws : List (List Int)) : Nat := prodL (nsOf ws)
theorem ns_pos {ws : List (List Int)} (hw : Wh ws) : ∀ n ∈ nsOf ws, 0 < n ∧ n ≤ 1000 := fun n hn => by
  simp only [nsOf, List.mem_reverse, List.mem_map] at hn
  obtain ⟨w, h1, rfl⟩ := hn
  exact hw.pos w h1
theorem digK_len (ws : List (List Int)) (k : Nat) : (digK (nsOf ws) k).length = ws.length := by simp [digK, digR_len, nsOf]
theorem rev_getD {α : Type} (l : List α) (d : α) (i : Nat) (hi : i < l.length) : l.reverse.getD i d = l.getD (l.length - 1 - i) d := by
  simp only [List.getD_eq_getElem?_getD, List.getElem?_reverse hi]
theorem digK_fits {ws : List (List Int)} (hw : Wh ws) (k : Nat) : Fits ws (digK (nsOf ws) k) := by
  refine ⟨digK_len ws k, fun i hi => ?_⟩
  have hl : (digR (nsOf ws) k).length = ws.length := by simp [digR_len, nsOf]
  have hn : (nsOf ws).length = ws.length := by simp [nsOf]
  have h1 := digR_lt (nsOf ws) k (fun n hn => (ns_pos hw n hn).1) (ws.length - 1 - i) (by omega)
  rw [digK, rev_getD _ _ _ (by omega), hl]
  refine Nat.lt_of_lt_of_eq h1 ?_
  unfold nsOf
  rw [rev_getD _ _ _ (by simp; omega)]
  have : (ws.map List.length).length - 1 - (ws.length - 1 - i) = i := by simp; omega
  rw [this, List.getD_eq_getElem?_getD, List.getD_eq_getElem?_getD, List.getElem?_map, List.getElem?_eq_getElem hi]
  rfl
theorem it_eq {ws : List (List Int)} (hw : Wh ws) (k : Nat) (hk : k < total ws) : m_variants_Seq_1_it ws (toI (digK (nsOf ws) k)) = some (.yld (rowF ws (digK (nsOf ws) k)) (some (if k + 1 < total ws then .next (toI (digK (nsOf ws) (k + 1))) else .done ()))) := by
  have hw1 := hw.len
  have hf := digK_fits hw k
  have hds : ∀ d ∈ digR (nsOf ws) k, d < 1000 := fun d hd => by
    obtain ⟨i, hi, rfl⟩ := List.getElem_of_mem hd
    rw [digR_len] at hi
    have h1 := digR_lt (nsOf ws) k (fun n hn => (ns_pos hw n hn).1) i hi
    have h2 := (ns_pos hw _ (getD_mem (d := 0) hi)).2
    have h3 : (digR (nsOf ws) k).getD i 0 = (digR (nsOf ws) k)[i] := by simp [List.getD_eq_getElem?_getD, digR_len, hi]
    rw [← h3]
    omega
  have ho := odo ws hw (nsOf ws) (digR (nsOf ws) k) 0 [] (digR_len _ _).symm (by simp [nsOf]) rfl hds
  rw [next_digR _ _ (fun n hn => (ns_pos hw n hn).1) hk] at ho
  simp only [List.replicate_zero, List.append_nil] at ho
  unfold m_variants_Seq_1_it
  rw [if_pos ⟨by omega, by omega, by omega⟩, row_eq ws _ hw hf, bind_some']
  unfold m_variants_Seq_1_K4
  have hlen : (toI (digK (nsOf ws) k)).length = (digR (nsOf ws) k).length := by simp [toI_len, digK]
  have hl2 : (digR (nsOf ws) k).length = ws.length := by simp [digR_len, nsOf]
  rw [hlen, w64 (by omega) (by omega)]
  show some (YS.yld _ (Option.bind (iter (m_variants_Seq_1_L9 ws) (toI (digR (nsOf ws) k).reverse, ((digR (nsOf ws) k).length : Int) - 1)) fun s5 => m_variants_Seq_1_K6 s5)) = _
  rw [ho]
  congr 3
  unfold total
  by_cases h : k + 1 < prodL (nsOf ws)
  · rw [if_pos h, if_pos h]; rfl
  · rw [if_neg h, if_neg h]
theorem init_eq {ws : List (List Int)} (hw : Wh ws) : m_variants_Seq_1 ws = some (toI (digK (nsOf ws) 0)) := by
  have hw1 := hw.len
  unfold m_variants_Seq_1
  rw [if_pos ⟨by omega, by omega, by omega⟩, digK, digR_zero]
  simp [toI, nsOf]
theorem total_pos {ws : List (List Int)} (hw : Wh ws) : 0 < total ws := prodL_pos _ fun n hn => (ns_pos hw n hn).1
/-- The k-th row. -/
def rowK (ws : List (List Int)) (k : Nat) : List Int := rowF ws (digK (nsOf ws) k)
section
variable {C R : Type} {cb : List Int → C → Option (Stp C R)}
theorem range_next {ws : List (List Int)} (hw : Wh ws) {k : Nat} {c c' : C} (hk : k < total ws) (h : cb (rowK ws k) c = some (.next c')) :
    iter (rangeB (m_variants_Seq_1_it ws) cb) (toI (digK (nsOf ws) k), c) = if k + 1 < total ws then iter (rangeB (m_variants_Seq_1_it ws) cb) (toI (digK (nsOf ws) (k + 1)), c') else some (.inl c') := by
  have hb : rangeB (m_variants_Seq_1_it ws) cb (toI (digK (nsOf ws) k), c) = some (if k + 1 < total ws then .next (toI (digK (nsOf ws) (k + 1)), c') else .done (.inl c')) := by
    simp only [rangeB, it_eq hw k hk]
    unfold rowK at h
    rw [h]
    by_cases hl : k + 1 < total ws
    · rw [if_pos hl, if_pos hl]
    · rw [if_neg hl, if_neg hl]
  by_cases hl : k + 1 < total ws
  · rw [if_pos hl] at hb ⊢; exact iter_next hb
  · rw [if_neg hl] at hb ⊢; exact iter_done hb
theorem range_done {ws : List (List Int)} (hw : Wh ws) {k : Nat} {c : C} {r : R} (hk : k < total ws) (h : cb (rowK ws k) c = some (.done r)) : iter (rangeB (m_variants_Seq_1_it ws) cb) (toI (digK (nsOf ws) k), c) = some (.inr r) := by
  refine iter_done ?_
  simp only [rangeB, it_eq hw k hk]
  unfold rowK at h
  rw [h]
end
theorem wh_wheels {f : T_api_Family} (hs : Small f) {l : List Int} (hl : l.length ≤ 1000) : Wh (wheels f l) := by
  refine ⟨by simpa [wheels] using hl, fun w hw => ?_⟩
  simp only [wheels, List.mem_map] at hw
  obtain ⟨r, _, rfl⟩ := hw
  have := wheel_len hs r
  exact ⟨wheel_pos f r, by omega⟩
theorem all_eq (f : T_api_Family) (hs : Small f) (hr : ∀ x ∈ f.f_Sets, risingL x) (l : List Int) (hl : l.length ≤ 1000) (most : Int) (hm : most ≤ 1000000) : m_variants_All f l most = some ((List.range (min (total (wheels f l)) most.toNat)).map (rowK (wheels f l))) := by
  have hw := wh_wheels hs hl
  have htp := total_pos hw
  unfold m_variants_All
  by_cases h1 : most < 1
  · rw [decide_eq_true h1, cond_true, show most.toNat = 0 by omega, Nat.min_zero]; rfl
  · rw [decide_eq_false h1, cond_false, seq_eq f hs hr l hl, bind_some', init_eq hw, bind_some']
    generalize wheels f l = ws at *
    obtain ⟨mm, rfl⟩ : ∃ mm : Nat, most = (mm : Int) := ⟨most.toNat, by omega⟩
    have key : ∀ (q k : Nat), k + q = min (total ws) mm → k < min (total ws) mm → ∃ z, iter (rangeB (m_variants_Seq_1_it ws) (m_variants_All_L9 (mm : Int))) (toI (digK (nsOf ws) k), (List.range k).map (rowK ws)) = some z ∧ (z = .inl ((List.range (min (total ws) mm)).map (rowK ws)) ∨ z = .inr ((List.range (min (total ws) mm)).map (rowK ws))) := by
      intro q
      induction q with
      | zero => intro k h h'; omega
      | succ q ih =>
        intro k h h'
        have e : (List.range k).map (rowK ws) ++ [rowK ws k] = (List.range (k + 1)).map (rowK ws) := by rw [List.range_succ, List.map_append]; rfl
        have hcb : m_variants_All_L9 (mm : Int) (rowK ws k) ((List.range k).map (rowK ws)) = some (if mm ≤ k + 1 then .done ((List.range (k + 1)).map (rowK ws)) else .next ((List.range (k + 1)).map (rowK ws))) := by
          unfold m_variants_All_L9
          have hlen : ((List.range k).map (rowK ws)).length = k := by simp
          rw [hlen, if_pos (by omega), e]
          by_cases hc : mm ≤ k + 1
          · rw [if_pos hc, decide_eq_true (by omega), cond_true]
          · rw [if_neg hc, decide_eq_false (by omega), cond_false]
        by_cases hc : mm ≤ k + 1
        · rw [if_pos hc] at hcb
          rw [range_done hw (by omega) hcb]
          have : min (total ws) mm = k + 1 := by omega
          rw [this]
          exact ⟨_, rfl, .inr rfl⟩
        · rw [if_neg hc] at hcb
          rw [range_next hw (by omega) hcb]
          by_cases hl : k + 1 < total ws
          · rw [if_pos hl]; exact ih (k + 1) (by omega) (by omega)
          · rw [if_neg hl]
            have : min (total ws) mm = k + 1 := by omega
            rw [this]
            exact ⟨_, rfl, .inl rfl⟩
    obtain ⟨z, hz, hz'⟩ := key (min (total ws) mm) 0 (by omega) (by omega)
    rw [show ((List.range 0).map (rowK ws) : List (List Int)) = [] from rfl] at hz
    rw [hz, Int.toNat_natCast]
    rcases hz' with rfl | rfl <;> rfl
end Go.Proofs.Ytclhniadffljdaa
