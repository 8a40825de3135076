/- The law of variants that are alike. No condition. -/
import Derived.Test.YtclhniadffljdaaDoorPVC2
namespace Go.Proofs.YtclhniadffljdaaDoor
open Go Go.SE
set_option linter.unusedVariables false
set_option linter.unusedSimpArgs false
structure RightF (f : T_api_Family) : Prop where
  small : Small f
  rise : ∀ x ∈ f.f_Sets, risingL x
  disj : ∀ i j, i < j → j < f.f_Sets.length → ∀ r, r ∈ setAt f j → r ∉ setAt f i
theorem setAt_mem {f : T_api_Family} {i : Nat} (hi : i < f.f_Sets.length) : setAt f i ∈ f.f_Sets := getD_mem (d := ([] : List Int)) hi
theorem mem_setAt {f : T_api_Family} {x : List Int} (h : x ∈ f.f_Sets) : ∃ i, i < f.f_Sets.length ∧ x = setAt f i := by
  obtain ⟨i, hi, rfl⟩ := List.getElem_of_mem h
  exact ⟨i, hi, by simp [setAt, List.getD_eq_getElem?_getD, hi]⟩
theorem any_mem {l : List Int} {r : Int} : (l.any fun z => z == r) = true ↔ r ∈ l := by
  rw [List.any_eq_true]
  exact ⟨fun ⟨z, hz, e⟩ => by rw [beq_iff_eq] at e; exact e ▸ hz, fun h => ⟨r, h, beq_self_eq_true r⟩⟩
theorem right_of_check {f : T_api_Family} (hs : Small f) (hn : f.f_Name.size ≤ 100) : ∃ e, m_variants_Check f = some e ∧ (e.isNil = true → RightF f) := by
  obtain ⟨bad, h1, _⟩ := checks_eq f hs hn
  refine ⟨_, h1, fun h => ?_⟩
  unfold erV at h
  by_cases h0 : (chk19 f bad).2 = 0
  · unfold chk19 at h0
    cases bad with
    | true => simp at h0
    | false =>
      rw [if_neg (by decide)] at h0
      cases hf : firstSome (stC f) f.f_Sets.length 0 with
      | some v =>
        rw [hf] at h0
        obtain ⟨j, _, _, hj, _⟩ := firstSome_some hf
        unfold stC at hj
        split at hj
        · rename_i hne
          cases hj
          exact absurd h0 hne
        · split at hj
          · cases hj; simp at h0
          · cases hj
      | none =>
        have hall := firstSome_none.1 hf
        have hst : ∀ i, i < f.f_Sets.length → seC f i = 0 ∧ dupC f i = false := fun i hi => stC_none (hall i (Nat.zero_le _) (by omega))
        refine ⟨hs, fun x hx => ?_, fun i j hij hj r hr hri => ?_⟩
        · obtain ⟨i, hi, rfl⟩ := mem_setAt hx
          exact rise_of (seC_zero (hst i hi).1).2.2
        · have hd := (hst j hj).2
          unfold dupC at hd
          rw [List.any_eq_false] at hd
          have h2 := hd i (List.mem_range'_1.2 ⟨by omega, by omega⟩)
          obtain ⟨k, hk, rfl⟩ := List.getElem_of_mem hr
          refine h2 (List.any_eq_true.2 ⟨k, List.mem_range'_1.2 ⟨by omega, by omega⟩, ?_⟩)
          have e : (setAt f j).getD k 0 = (setAt f j)[k] := by simp [List.getD_eq_getElem?_getD, hk]
          rw [e]
          exact any_mem.2 hri
  · rw [if_neg h0] at h; cases h
section
variable {f : T_api_Family} (hf : RightF f)
include hf
theorem setO_of {j : Nat} (hj : j < f.f_Sets.length) {x : Int} (hx : x ∈ setAt f j) : setF f x = setAt f j := by
  unfold setF
  cases ho : setO f x with
  | none =>
    unfold setO at ho
    rw [List.find?_eq_none] at ho
    exact absurd (any_mem.2 hx) (ho _ (setAt_mem hj))
  | some y =>
    unfold setO at ho
    have h1 : x ∈ y := any_mem.1 (List.find?_some (p := fun y : List Int => y.any fun z => z == x) ho)
    obtain ⟨i, hi, rfl⟩ := mem_setAt (List.mem_of_find?_eq_some ho)
    show setAt f i = setAt f j
    rcases Nat.lt_trichotomy i j with h | h | h
    · exact absurd h1 (hf.disj i j h hj x hx)
    · rw [h]
    · exact absurd hx (hf.disj j i h hi x h1)
theorem wheel_cases (r : Int) : (setF f r = [] ∧ wheelF f r = [r]) ∨ ∃ j, j < f.f_Sets.length ∧ r ∈ setAt f j ∧ setF f r = setAt f j ∧ wheelF f r = setAt f j := by
  cases ho : setO f r with
  | none =>
    left
    have : setF f r = [] := by unfold setF; rw [ho]; rfl
    exact ⟨this, by unfold wheelF; rw [this]; rfl⟩
  | some y =>
    right
    unfold setO at ho
    have h1 : r ∈ y := any_mem.1 (List.find?_some (p := fun y : List Int => y.any fun z => z == r) ho)
    obtain ⟨i, hi, rfl⟩ := mem_setAt (List.mem_of_find?_eq_some ho)
    have e := setO_of hf hi h1
    refine ⟨i, hi, h1, e, ?_⟩
    unfold wheelF
    rw [e, if_neg]
    intro h0
    rw [List.length_eq_zero_iff] at h0
    rw [h0] at h1; cases h1
theorem wheel_self (r : Int) : r ∈ wheelF f r := by
  rcases wheel_cases hf r with ⟨_, h⟩ | ⟨j, _, h, _, e⟩
  · rw [h]; simp
  · rw [e]; exact h
theorem wheel_same {r x : Int} (hx : x ∈ wheelF f r) : wheelF f x = wheelF f r := by
  rcases wheel_cases hf r with ⟨_, h⟩ | ⟨j, hj, h, _, e⟩
  · rw [h] at hx; simp at hx; rw [hx]
  · rw [e] at hx ⊢
    have e2 := setO_of hf hj hx
    unfold wheelF
    rw [e2, if_neg]
    intro h0
    rw [List.length_eq_zero_iff] at h0
    rw [h0] at hx; cases hx
theorem wheel_rise (r : Int) : risingL (wheelF f r) := by
  rcases wheel_cases hf r with ⟨_, h⟩ | ⟨j, hj, _, _, e⟩
  · rw [h]; intro i j hij hj; simp at hj; omega
  · rw [e]; exact hf.rise _ (setAt_mem hj)
omit hf in
theorem keyR_wheel (r : Int) : keyR f r = (wheelF f r).getD 0 0 := by
  unfold keyR wheelF
  by_cases h : (setF f r).length = 0
  · rw [if_neg (by omega), if_pos h]; rfl
  · rw [if_pos (by omega), if_neg h]
omit hf in
theorem keys_wheels (l : List Int) : l.map (keyR f) = (wheels f l).map fun w => w.getD 0 0 := by
  rw [wheels, List.map_map]
  exact List.map_congr_left fun r _ => keyR_wheel r
omit hf in
theorem getD_in {l : List Int} {d : Nat} (h : d < l.length) : l.getD d 0 ∈ l := getD_mem h
theorem rowF_wheels (l : List Int) (ds : List Nat) (hd : Fits (wheels f l) ds) : wheels f (rowF (wheels f l) ds) = wheels f l := by
  have hlen : (wheels f l).length = l.length := by simp [wheels]
  refine List.ext_getElem (by simp [wheels, rowF, hd.1]) fun i h1 h2 => ?_
  have hi : i < l.length := by omega
  have hfi := hd.2 i h2
  have ew : (wheels f l).getD i [] = wheelF f l[i] := by simp [wheels, List.getD_eq_getElem?_getD, hi]
  have er : (rowF (wheels f l) ds).getD i 0 ∈ wheelF f l[i] := by
    rw [rowF_getD hd.1 h2, ew]
    rw [ew] at hfi
    exact getD_in hfi
  have hr : i < (rowF (wheels f l) ds).length := by rw [rowF_len hd.1]; exact h2
  have er2 : (rowF (wheels f l) ds).getD i 0 = (rowF (wheels f l) ds)[i] := by simp [List.getD_eq_getElem?_getD, hr]
  rw [er2] at er
  simp only [wheels, List.getElem_map]
  exact wheel_same hf er
theorem row_wheels (l : List Int) (hl : l.length ≤ 1000) (k : Nat) : wheels f (rowK (wheels f l) k) = wheels f l := rowF_wheels hf l _ (digK_fits (wh_wheels hf.small hl) k)
omit hf in
theorem row_zero (ws : List (List Int)) : rowK ws 0 = ws.map fun w => w.getD 0 0 := by
  unfold rowK rowF digK
  rw [digR_zero]
  have : (List.replicate (nsOf ws).length 0).reverse = List.replicate ws.length 0 := by simp [nsOf]
  rw [this]
  clear this
  induction ws with
  | nil => rfl
  | cons w ws ih => simp only [List.length_cons, List.replicate_succ, List.zipWith_cons_cons, List.map_cons, ih]
/-! ### Rows rise -/
omit hf in
theorem next_split : ∀ (ns ds ds' : List Nat), nextR ns ds = some ds' → ∃ a d b, ds = a ++ d :: b ∧ ds' = List.replicate a.length 0 ++ (d + 1) :: b
  | n :: ns, d :: ds, ds', h => by
    rw [nextR] at h
    split at h
    · rename_i hd
      cases hn : nextR ns ds with
      | none => rw [hn] at h; cases h
      | some e =>
        rw [hn] at h
        cases h
        obtain ⟨a, d1, b, h1, h2⟩ := next_split ns ds e hn
        exact ⟨d :: a, d1, b, by rw [h1]; rfl, by rw [h2]; rfl⟩
    · cases h
      exact ⟨[], d, ds, rfl, rfl⟩
  | [], _, _, h => by simp [nextR] at h
  | n :: ns, [], _, h => by simp [nextR] at h
theorem rows_rise (l : List Int) (hl : l.length ≤ 1000) (k : Nat) (hk : k + 1 < total (wheels f l)) : ∃ p, p < l.length ∧ (∀ i, i < p → (rowK (wheels f l) (k + 1)).getD i 0 = (rowK (wheels f l) k).getD i 0) ∧ (rowK (wheels f l) k).getD p 0 < (rowK (wheels f l) (k + 1)).getD p 0 := by
  have hw := wh_wheels hf.small hl
  have hlen : (wheels f l).length = l.length := by simp [wheels]
  have hn := next_digR (nsOf (wheels f l)) k (fun n hn => (ns_pos hw n hn).1) (show k < prodL _ by unfold total at hk; omega)
  rw [if_pos (show k + 1 < prodL _ from hk)] at hn
  obtain ⟨a, d, b, h1, h2⟩ := next_split _ _ _ hn
  have hl1 : a.length + 1 + b.length = l.length := by
    have := digR_len (nsOf (wheels f l)) k
    rw [h1] at this
    simp [nsOf, hlen] at this
    omega
  have e1 : digK (nsOf (wheels f l)) k = b.reverse ++ d :: a.reverse := by unfold digK; rw [h1]; simp
  have e2 : digK (nsOf (wheels f l)) (k + 1) = b.reverse ++ (d + 1) :: List.replicate a.length 0 := by unfold digK; rw [h2]; simp
  have f1 := digK_fits hw k
  have f2 := digK_fits hw (k + 1)
  refine ⟨b.length, by omega, fun i hi => ?_, ?_⟩
  · unfold rowK
    rw [rowF_getD f1.1 (by omega), rowF_getD f2.1 (by omega), e1, e2]
    congr 1
    simp only [List.getD_eq_getElem?_getD]
    rw [List.getElem?_append_left (by simp; omega), List.getElem?_append_left (by simp; omega)]
  · unfold rowK
    rw [rowF_getD f1.1 (by omega), rowF_getD f2.1 (by omega)]
    have g2 := f2.2 b.length (by omega)
    rw [e2, getD_mid (by simp)] at g2 ⊢
    rw [e1, getD_mid (by simp)]
    have ew : (wheels f l).getD b.length [] = wheelF f (l.getD b.length 0) := by
      have hi : b.length < l.length := by omega
      simp [wheels, List.getD_eq_getElem?_getD, hi]
    rw [ew] at g2 ⊢
    exact wheel_rise hf _ d (d + 1) (by omega) g2
/-! ### Every row is one of them -/
omit hf in
theorem dig_onto : ∀ (ns ds : List Nat), ds.length = ns.length → (∀ i, i < ns.length → ds.getD i 0 < ns.getD i 0) → ∃ k, k < prodL ns ∧ digR ns k = ds
  | [], [], _, _ => ⟨0, Nat.one_pos, rfl⟩
  | n :: ns, d :: ds, hl, h => by
    obtain ⟨k, hk, e⟩ := dig_onto ns ds (by simpa using hl) fun i hi => h (i + 1) (by simpa using hi)
    have hd : d < n := h 0 (by simp)
    refine ⟨d + n * k, ?_, ?_⟩
    · show d + n * k < n * prodL ns
      have := Nat.mul_le_mul_left n hk
      rw [Nat.mul_succ] at this
      omega
    · rw [digR, Nat.add_mul_mod_self_left, Nat.mod_eq_of_lt hd, Nat.add_mul_div_left _ _ (by omega), Nat.div_eq_of_lt hd, Nat.zero_add, e]
omit hf in
theorem rows_onto : ∀ (ws : List (List Int)) (m : List Int), m.length = ws.length → (∀ i, i < ws.length → m.getD i 0 ∈ ws.getD i []) → ∃ ds, Fits ws ds ∧ rowF ws ds = m
  | [], [], _, _ => ⟨[], ⟨rfl, fun i hi => by simp at hi⟩, rfl⟩
  | w :: ws, x :: m, hl, h => by
    obtain ⟨ds, hf, e⟩ := rows_onto ws m (by simpa using hl) fun i hi => h (i + 1) (by simpa using hi)
    have hx : x ∈ w := h 0 (by simp)
    obtain ⟨d, hd, rfl⟩ := List.getElem_of_mem hx
    refine ⟨d :: ds, ⟨by simp [hf.1], fun i hi => ?_⟩, ?_⟩
    · cases i with
      | zero => exact hd
      | succ i => exact hf.2 i (by simpa using hi)
    · unfold rowF at e ⊢
      rw [List.zipWith_cons_cons, e]
      simp [List.getD_eq_getElem?_getD, hd]
theorem row_iff (l m : List Int) (hl : l.length ≤ 1000) : (∃ k, k < total (wheels f l) ∧ rowK (wheels f l) k = m) ↔ l.map (keyR f) = m.map (keyR f) := by
  have hw := wh_wheels hf.small hl
  have hlen : (wheels f l).length = l.length := by simp [wheels]
  constructor
  · rintro ⟨k, hk, rfl⟩
    rw [keys_wheels, keys_wheels, row_wheels hf l hl]
  · intro he
    have hml : m.length = l.length := by have := congrArg List.length he; simpa using this.symm
    have hcls : ∀ a b, keyR f a = keyR f b → wheelF f a = wheelF f b := fun a b h => by
      have ha : keyR f a ∈ wheelF f a := by rw [keyR_wheel]; exact getD_in (wheel_pos f a)
      have hb : keyR f b ∈ wheelF f b := by rw [keyR_wheel]; exact getD_in (wheel_pos f b)
      rw [← wheel_same hf ha, h, wheel_same hf hb]
    obtain ⟨ds, hd, e⟩ := rows_onto (wheels f l) m (by omega) fun i hi => by
      have hi1 : i < l.length := by omega
      have hi2 : i < m.length := by omega
      have h1 : keyR f l[i] = keyR f m[i] := by
        have e1 : (l.map (keyR f))[i]? = (m.map (keyR f))[i]? := by rw [he]
        simpa [hi1, hi2] using e1
      have ew : (wheels f l).getD i [] = wheelF f l[i] := by simp [wheels, List.getD_eq_getElem?_getD, hi1]
      have em : m.getD i 0 = m[i] := by simp [List.getD_eq_getElem?_getD, hi2]
      rw [ew, em, hcls _ _ h1]
      exact wheel_self hf _
    obtain ⟨k, hk, ek⟩ := dig_onto (nsOf (wheels f l)) ds.reverse (by simp [nsOf, hd.1]) fun i hi => by
      have hi' : i < (wheels f l).length := by simpa [nsOf] using hi
      rw [rev_getD _ _ _ (by rw [hd.1]; exact hi'), hd.1]
      unfold nsOf
      rw [rev_getD _ _ _ (by simpa using hi')]
      have h3 := hd.2 ((wheels f l).length - 1 - i) (by omega)
      refine Nat.lt_of_lt_of_eq h3 ?_
      have hq : (wheels f l).length - 1 - i < (wheels f l).length := by omega
      simp only [List.length_map]
      rw [List.getD_eq_getElem?_getD, List.getD_eq_getElem?_getD, List.getElem?_map, List.getElem?_eq_getElem hq]
      rfl
    refine ⟨k, hk, ?_⟩
    unfold rowK digK
    rw [ek, List.reverse_reverse, e]
end
/-! ### The law -/
theorem lexi_loop (l : List Int) (rows : List (List Int)) (s : Bool × Int) (i p : Nat) (hi0 : 0 < i) (hi : i < rows.length) (hir : rows.length ≤ 1000) (hs : s.2 = (i : Int)) (hl : l.length ≤ 1000) (h1 : (rows.getD i []).length = l.length) (h2 : (rows.getD (i - 1) []).length = l.length) (hp : p < l.length)
    (he : ∀ j, j < p → (rows.getD i []).getD j 0 = (rows.getD (i - 1) []).getD j 0) (hlt : (rows.getD (i - 1) []).getD p 0 < (rows.getD i []).getD p 0) : iter (m_eponymlaw19_VariantsAlike_L27 l rows s) (0 : Int) = some (p : Int) := by
  have hdn : IntKind.wrap .i64 ((i : Int) - 1) = ((i - 1 : Nat) : Int) := down hi0 (by omega)
  have key : ∀ (q k : Nat), k + q = p → iter (m_eponymlaw19_VariantsAlike_L27 l rows s) (k : Int) = some (p : Int) := by
    intro q
    induction q with
    | zero =>
      intro k hk
      obtain rfl : k = p := by omega
      refine iter_done ?_
      unfold m_eponymlaw19_VariantsAlike_L27 m_eponymlaw19_VariantsAlike_K30
      rw [hs, decide_eq_true (by omega), cond_true, if_pos ⟨by omega, by omega⟩, Int.toNat_natCast, if_pos ⟨by omega, by omega⟩, hdn, if_pos ⟨by omega, by omega⟩, Int.toNat_natCast, if_pos ⟨by omega, by omega⟩, Int.toNat_natCast, beq_false_of_ne (by omega)]
      rfl
    | succ q ih =>
      intro k hk
      rw [← ih (k + 1) (by omega)]
      refine iter_next ?_
      unfold m_eponymlaw19_VariantsAlike_L27 m_eponymlaw19_VariantsAlike_K30
      rw [hs, decide_eq_true (by omega), cond_true, if_pos ⟨by omega, by omega⟩, Int.toNat_natCast, if_pos ⟨by omega, by omega⟩, hdn, if_pos ⟨by omega, by omega⟩, Int.toNat_natCast, if_pos ⟨by omega, by omega⟩, Int.toNat_natCast, he k (by omega), beq_self_eq_true, up (by omega)]
      rfl
  exact key p 0 (by omega)
theorem law_variantsAlike (f : T_api_Family) (l m : List Int) : m_eponymlaw19_VariantsAlike f l m = some true := by
  unfold m_eponymlaw19_VariantsAlike
  rw [awake19 all_demo, bind_some']
  obtain ⟨g, hg, hsm⟩ := great19 f
  rw [hg]
  simp only [Bool.not_true, cond_false, bind_some']
  have yes : m_eponymlaw19_VariantsAlike_K3 f l m true = some true := rfl
  cases g with
  | true => exact yes
  | false =>
    obtain ⟨hs, hn⟩ := hsm rfl
    rw [cond_false]
    by_cases ha : 8 < l.length
    · rw [decide_eq_true (show ((l.length : Nat) : Int) > 8 by omega)]; exact yes
    rw [decide_eq_false (show ¬ ((l.length : Nat) : Int) > 8 by omega), cond_false]
    by_cases hb : 8 < m.length
    · rw [decide_eq_true (show ((m.length : Nat) : Int) > 8 by omega)]; exact yes
    rw [decide_eq_false (show ¬ ((m.length : Nat) : Int) > 8 by omega), cond_false]
    obtain ⟨e, he, hright⟩ := right_of_check hs hn
    rw [he]
    simp only [bind_some']
    cases hnil : e.isNil with
    | false => exact yes
    | true =>
      have hf := hright hnil
      have hw := wh_wheels hs (l := l) (by omega)
      have htp := total_pos hw
      rw [Bool.not_true]
      unfold m_eponymlaw19_VariantsAlike_K3
      rw [cond_false, all_eq f hs hf.rise l (by omega) 50 (by decide), bind_some']
      obtain ⟨n, hn50⟩ : ∃ n, min (total (wheels f l)) (50 : Int).toNat = n := ⟨_, rfl⟩
      rw [hn50]
      have hn50 : n = min (total (wheels f l)) 50 := hn50.symm
      have hlen : ((List.range n).map (rowK (wheels f l))).length = n := by simp
      have hgd : ∀ i, i < n → ((List.range n).map (rowK (wheels f l))).getD i [] = rowK (wheels f l) i := fun i hi => by simp [List.getD_eq_getElem?_getD, hi]
      generalize (List.range n).map (rowK (wheels f l)) = rows at hlen hgd
      have hsame : ∀ a b : List Int, a.length ≤ 1000 → b.length ≤ 1000 → m_variants_Same f a b = some (decide (a.map (keyR f) = b.map (keyR f))) := fun a b h1 h2 => by
        unfold m_variants_Same
        rw [key_eq f hs hf.rise a h1, key_eq f hs hf.rise b h2, bind_some', bind_some', equal_eq _ _ (by simp; omega)]; rfl
      have hcnt : ∀ a : List Int, a.length ≤ 1000 → m_variants_Count f a = some ((min (total (wheels f a)) 1073741824 : Nat) : Int) := fun a h => by rw [vcount_eq f hs hf.rise a h, cnt_eq]
      have hround : ∀ i, i < n → m_eponymlaw19_VariantsAlike_L12 f l m rows ((List.range i).any fun k => decide (rowK (wheels f l) k = m), (i : Int)) = some (.next ((List.range (i + 1)).any fun k => decide (rowK (wheels f l) k = m), ((i + 1 : Nat) : Int))) := fun i hi => by
        have hrl := rowK_len f l i
        unfold m_eponymlaw19_VariantsAlike_L12
        simp only [Int.toNat_natCast]
        rw [hlen, decide_eq_true (by omega), cond_true, if_pos ⟨by omega, by omega⟩, if_pos ⟨by omega, by omega⟩, if_pos ⟨by omega, by omega⟩, hgd i hi, hsame _ _ (by omega) (by omega), bind_some', keys_wheels, keys_wheels, row_wheels hf l (by omega), decide_eq_true rfl, hcnt _ (by omega), hcnt _ (by omega), row_wheels hf l (by omega)]
        simp only [Bool.not_true, cond_false, bind_some']
        have h16 : (bif (((min (total (wheels f l)) 1073741824 : Nat) : Int) != ((min (total (wheels f l)) 1073741824 : Nat) : Int)) then some true else bif ((i : Int) == (0 : Int)) then Option.bind (m_variants_Key f l) fun y36 => Option.bind (m_eponymlaw01_Same (rowK (wheels f l) i) y36) fun y37 => some (!y37) else some false : Option Bool) = some false := by
          rw [show (((min (total (wheels f l)) 1073741824 : Nat) : Int) != ((min (total (wheels f l)) 1073741824 : Nat) : Int)) = false by simp, cond_false]
          by_cases h0 : i = 0
          · subst h0
            rw [key_eq f hs hf.rise l (by omega), bind_some', same_eq _ _ (by rw [hrl]; omega), bind_some', row_zero, ← keys_wheels, decide_eq_true rfl]; rfl
          · rw [beq_false_of_ne (by omega)]; rfl
        rw [h16, bind_some']
        have hK19 : m_eponymlaw19_VariantsAlike_K19 m rows ((List.range i).any fun k => decide (rowK (wheels f l) k = m), (i : Int)) () = some (.inl ((List.range (i + 1)).any fun k => decide (rowK (wheels f l) k = m))) := by
          unfold m_eponymlaw19_VariantsAlike_K19
          simp only [Int.toNat_natCast]
          rw [hlen, hgd i hi, List.range_succ, List.any_append]
          cases (List.range i).any fun k => decide (rowK (wheels f l) k = m) with
          | true => rfl
          | false =>
            rw [cond_false, if_pos ⟨by omega, by omega⟩, same_eq _ _ (by rw [hrl]; omega), bind_some']
            simp
        have hK17 : m_eponymlaw19_VariantsAlike_K17 l m rows ((List.range i).any fun k => decide (rowK (wheels f l) k = m), (i : Int)) false = some (.inl ((List.range (i + 1)).any fun k => decide (rowK (wheels f l) k = m))) := by
          unfold m_eponymlaw19_VariantsAlike_K17
          rw [cond_false]
          by_cases h0 : i = 0
          · subst h0
            rw [decide_eq_false (by simp), cond_false, bind_some']
            exact hK19
          · obtain ⟨p, hp, hpe, hpl⟩ := rows_rise hf l (by omega) (i - 1) (by omega)
            rw [show i - 1 + 1 = i by omega] at hpe hpl
            have hrl2 := rowK_len f l (i - 1)
            rw [decide_eq_true (by show (i : Int) > 0; omega), cond_true, lexi_loop l rows _ i p (by omega) (by omega) (by omega) rfl (by omega) (by rw [hgd i hi, hrl]) (by rw [hgd (i - 1) (by omega), hrl2]) hp (fun j hj => by rw [hgd i hi, hgd (i - 1) (by omega)]; exact hpe j hj) (by rw [hgd i hi, hgd (i - 1) (by omega)]; exact hpl), bind_some']
            unfold m_eponymlaw19_VariantsAlike_K22
            simp only [Int.toNat_natCast]
            rw [down (by omega) (by omega), hlen]
            simp only [Int.toNat_natCast, hgd i hi, hgd (i - 1) (show i - 1 < n by omega), hrl, hrl2]
            rw [beq_false_of_ne (by omega), cond_false, if_pos ⟨by omega, by omega⟩, if_pos ⟨by omega, by omega⟩, if_pos ⟨by omega, by omega⟩, if_pos ⟨by omega, by omega⟩, bind_some', decide_eq_false (by omega)]
            unfold m_eponymlaw19_VariantsAlike_K24
            rw [cond_false, bind_some']
            exact hK19
        rw [hK17, bind_some', up (by omega)]
      have hloop : ∀ (q i : Nat), i + q = n → iter (m_eponymlaw19_VariantsAlike_L12 f l m rows) ((List.range i).any fun k => decide (rowK (wheels f l) k = m), (i : Int)) = some (.inl ((List.range n).any fun k => decide (rowK (wheels f l) k = m))) := by
        intro q
        induction q with
        | zero =>
          intro i hi
          obtain rfl : i = n := by omega
          refine iter_done ?_
          unfold m_eponymlaw19_VariantsAlike_L12
          rw [hlen, decide_eq_false (by omega)]; rfl
        | succ q ih =>
          intro i hi
          rw [iter_next (hround i (by omega))]
          exact ih (i + 1) (by omega)
      have hl0 := hloop n 0 (by omega)
      rw [show ((false, (0 : Int)) : Bool × Int) = ((List.range 0).any fun k => decide (rowK (wheels f l) k = m), ((0 : Nat) : Int)) from rfl, hl0, bind_some']
      simp only
      unfold m_eponymlaw19_VariantsAlike_K6
      rw [hcnt l (by omega), bind_some']
      by_cases h50 : 50 < total (wheels f l)
      · rw [decide_eq_true (by omega)]; rfl
      · rw [decide_eq_false (by omega), cond_false, hsame l m (by omega) (by omega), bind_some']
        have hn2 : n = total (wheels f l) := by omega
        have : ((List.range n).any fun k => decide (rowK (wheels f l) k = m)) = decide (l.map (keyR f) = m.map (keyR f)) := by
          rw [Bool.eq_iff_iff, List.any_eq_true, decide_eq_true_eq, ← row_iff hf l m (by omega)]
          constructor
          · rintro ⟨k, hk, he⟩
            exact ⟨k, by rw [← hn2]; exact List.mem_range.1 hk, of_decide_eq_true he⟩
          · rintro ⟨k, hk, he⟩
            exact ⟨k, List.mem_range.2 (by omega), decide_eq_true he⟩
        rw [this]
        simp
end Go.Proofs.YtclhniadffljdaaDoor
