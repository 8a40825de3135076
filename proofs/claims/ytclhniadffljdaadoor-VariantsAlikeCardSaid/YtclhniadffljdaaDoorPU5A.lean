/- Merged of texts of ours: PU1, PU2, PU3, PU4, PU5A. No condition. -/
import Derived.Test.YtclhniadffljdaaDoorPAllLA
import Derived.Laws.Strings
namespace Go.Proofs.YtclhniadffljdaaDoor
open Go Go.SE
set_option linter.unusedVariables false
set_option linter.unusedSimpArgs false
theorem bt_lo (s : ByteArray) (i : Int) : 0 ≤ bt s i := by unfold bt; omega
theorem bt_hi (s : ByteArray) (i : Int) : bt s i ≤ 255 := by
  unfold bt
  have := (s.data.toList.getD i.toNat 0).toNat_lt
  omega
theorem bt_ext (s : ByteArray) (a b i : Nat) (hi : a + i < b) (hb : b ≤ s.size) : bt (s.extract a b) (i : Int) = bt s ((a + i : Nat) : Int) := by
  unfold bt
  simp only [Int.toNat_natCast, ByteArray.data_extract, List.getD_eq_getElem?_getD, Array.getElem?_toList]
  rw [Array.getElem?_extract, if_pos]
  have : s.data.size = s.size := ByteArray.size_data
  omega
theorem bt_app_lo (a b : ByteArray) (i : Nat) (hi : i < a.size) : bt (a ++ b) (i : Int) = bt a (i : Int) := by
  unfold bt
  simp only [Int.toNat_natCast, ByteArray.data_append, List.getD_eq_getElem?_getD, Array.getElem?_toList]
  rw [Array.getElem?_append, if_pos]
  have : a.data.size = a.size := ByteArray.size_data
  omega
theorem bt_app_hi (a b : ByteArray) (i : Nat) : bt (a ++ b) ((a.size + i : Nat) : Int) = bt b (i : Int) := by
  unfold bt
  simp only [Int.toNat_natCast, ByteArray.data_append, List.getD_eq_getElem?_getD, Array.getElem?_toList]
  have : a.data.size = a.size := ByteArray.size_data
  rw [Array.getElem?_append, if_neg (by omega), this, Nat.add_sub_cancel_left]
theorem v_end {s : ByteArray} {r : Int} {i : Nat} (hi : s.size ≤ i) : iter (m_eponymref01_value_L13 s) (r, (i : Int)) = some (.inl r) := by
  refine iter_done ?_
  unfold m_eponymref01_value_L13
  simp only
  rw [decide_eq_false (by omega)]; rfl
theorem v_step {s : ByteArray} {r : Int} {i : Nat} (hi : i < s.size) (hs : s.size ≤ 1000000) (h0 : 0 ≤ r) (h1 : r ≤ 8388607) :
    iter (m_eponymref01_value_L13 s) (r, (i : Int)) = if bt s (i : Int) < 128 ∨ 191 < bt s (i : Int) then some (.inr (-1)) else iter (m_eponymref01_value_L13 s) (r * 64 + bt s (i : Int) - 128, ((i + 1 : Nat) : Int)) := by
  have b0 := bt_lo s (i : Int)
  have b1 := bt_hi s (i : Int)
  have e : m_eponymref01_value_L13 s (r, (i : Int)) = m_eponymref01_value_K16 s (r, (i : Int)) (decide (bt s (i : Int) < 128 ∨ 191 < bt s (i : Int))) := by
    unfold m_eponymref01_value_L13
    simp only
    rw [decide_eq_true (by omega), cond_true, if_pos ⟨by omega, by omega⟩, if_pos ⟨by omega, by omega⟩]
    by_cases h : bt s (i : Int) < 128
    · rw [decide_eq_true h, decide_eq_true (Or.inl h)]; rfl
    · rw [decide_eq_false h]
      by_cases h' : 191 < bt s (i : Int)
      · rw [decide_eq_true (Or.inr h'), decide_eq_true (show bt s (i : Int) > 191 from h')]; rfl
      · rw [decide_eq_false (show ¬ bt s (i : Int) > 191 from h'), decide_eq_false (by omega)]; rfl
  by_cases h : bt s (i : Int) < 128 ∨ 191 < bt s (i : Int)
  · rw [if_pos h]
    rw [decide_eq_true h] at e
    exact iter_done (e.trans rfl)
  · rw [if_neg h]
    rw [decide_eq_false h] at e
    rw [iter_next (e.trans ?_)]
    unfold m_eponymref01_value_K16
    simp only
    rw [cond_false, if_pos ⟨by omega, by omega⟩, w32 (x := r * 64) (by omega) (by omega), w32 (x := bt s (i : Int)) (by omega) (by omega), w32 (x := r * 64 + bt s (i : Int)) (by omega) (by omega), w32 (by omega) (by omega), up (by omega)]
/-- What n bytes stand for; -1: nothing. -/
def valS (n : Nat) (g : Nat → Int) : Int :=
  if n = 1 then (if g 0 < 128 then g 0 else -1)
  else if n = 2 then (if 192 ≤ g 0 ∧ g 0 < 224 ∧ 128 ≤ g 1 ∧ g 1 ≤ 191 then (g 0 - 192) * 64 + g 1 - 128 else -1)
  else if n = 3 then (if 224 ≤ g 0 ∧ g 0 < 240 ∧ (128 ≤ g 1 ∧ g 1 ≤ 191) ∧ 128 ≤ g 2 ∧ g 2 ≤ 191 then ((g 0 - 224) * 64 + g 1 - 128) * 64 + g 2 - 128 else -1)
  else (if 240 ≤ g 0 ∧ g 0 < 248 ∧ (128 ≤ g 1 ∧ g 1 ≤ 191) ∧ (128 ≤ g 2 ∧ g 2 ≤ 191) ∧ 128 ≤ g 3 ∧ g 3 ≤ 191 then (((g 0 - 240) * 64 + g 1 - 128) * 64 + g 2 - 128) * 64 + g 3 - 128 else -1)
theorem valS1 (g : Nat → Int) : valS 1 g = if g 0 < 128 then g 0 else -1 := rfl
theorem valS2 (g : Nat → Int) : valS 2 g = if 192 ≤ g 0 ∧ g 0 < 224 ∧ 128 ≤ g 1 ∧ g 1 ≤ 191 then (g 0 - 192) * 64 + g 1 - 128 else -1 := rfl
theorem valS3 (g : Nat → Int) : valS 3 g = if 224 ≤ g 0 ∧ g 0 < 240 ∧ (128 ≤ g 1 ∧ g 1 ≤ 191) ∧ 128 ≤ g 2 ∧ g 2 ≤ 191 then ((g 0 - 224) * 64 + g 1 - 128) * 64 + g 2 - 128 else -1 := rfl
theorem valS4 (g : Nat → Int) : valS 4 g = if 240 ≤ g 0 ∧ g 0 < 248 ∧ (128 ≤ g 1 ∧ g 1 ≤ 191) ∧ (128 ≤ g 2 ∧ g 2 ≤ 191) ∧ 128 ≤ g 3 ∧ g 3 ≤ 191 then (((g 0 - 240) * 64 + g 1 - 128) * 64 + g 2 - 128) * 64 + g 3 - 128 else -1 := rfl
theorem k8_end (s : ByteArray) (r : Int) (h : s.size ≤ 1) (h0 : 0 ≤ r) : m_eponymref01_value_K8 s r = some r := by
  unfold m_eponymref01_value_K8
  rw [decide_eq_false (by omega), cond_false, show (1 : Int) = ((1 : Nat) : Int) from rfl, v_end h]; rfl
theorem value_eq (s : ByteArray) (g : Nat → Int) (hg : ∀ i : Nat, g i = bt s ((i : Nat) : Int)) (h1 : 1 ≤ s.size) (h4 : s.size ≤ 4) : m_eponymref01_value s = some (valS s.size g) := by
  have b0 := bt_lo s 0
  have b1 := bt_hi s 0
  have e0 : bt s ((0 : Nat) : Int) = bt s 0 := rfl
  have e2 : g 2 = bt s ((1 + 1 : Nat) : Int) := hg 2
  have e3 : g 3 = bt s ((1 + 1 + 1 : Nat) : Int) := hg 3
  unfold m_eponymref01_value
  rw [if_pos ⟨by omega, by omega⟩, w32 (x := bt s 0) (by omega) (by omega)]
  have c : s.size = 1 ∨ s.size = 2 ∨ s.size = 3 ∨ s.size = 4 := by omega
  have neg : ∀ r, r < 0 → m_eponymref01_value_K8 s r = some (-1) := fun r h => by
    unfold m_eponymref01_value_K8
    rw [decide_eq_true h]; rfl
  have pos : ∀ r, 0 ≤ r → m_eponymref01_value_K8 s r = Option.bind (iter (m_eponymref01_value_L13 s) (r, ((1 : Nat) : Int)) : Option (Sum Int Int)) fun z => match z with | .inl s9 => some s9 | .inr v19 => some v19 := fun r h => by
    unfold m_eponymref01_value_K8
    rw [decide_eq_false (by omega), cond_false]; rfl
  rcases c with c | c | c | c
  · rw [c, show (((1 : Nat) : Int) == 1) = true from rfl, cond_true, bind_some']
    unfold m_eponymref01_value_K2
    rw [w32 (x := bt s 0) (by omega) (by omega)]
    by_cases h : bt s 0 < 128
    · rw [decide_eq_true h, cond_true]; rw [valS1, hg 0, e0, if_pos h]
    · rw [decide_eq_false h, cond_false, c, show (((1 : Nat) : Int) == 2) = false from rfl, cond_false, bind_some']
      unfold m_eponymref01_value_K25
      rw [cond_false, bind_some']
      unfold m_eponymref01_value_K4
      rw [c, show (((1 : Nat) : Int) == 3) = false from rfl, cond_false, bind_some']
      unfold m_eponymref01_value_K23
      rw [cond_false, bind_some']
      unfold m_eponymref01_value_K6
      rw [c, show (((1 : Nat) : Int) == 4) = false from rfl, cond_false, bind_some']
      unfold m_eponymref01_value_K21
      rw [cond_false, bind_some', neg _ (by omega)]
      rw [valS1, hg 0, e0, if_neg h]
  · rw [c, show (((2 : Nat) : Int) == 1) = false from rfl, cond_false, bind_some']
    unfold m_eponymref01_value_K2
    rw [cond_false, c, show (((2 : Nat) : Int) == 2) = true from rfl, cond_true, w32 (x := bt s 0) (by omega) (by omega)]
    have m0 : (bif decide (bt s 0 ≥ 192) then some (decide (bt s 0 < 224)) else some false) = some (decide (192 ≤ bt s 0 ∧ bt s 0 < 224)) := by
      by_cases h : bt s 0 ≥ 192
      · rw [decide_eq_true h, cond_true]
        by_cases h' : bt s 0 < 224
        · rw [decide_eq_true h', decide_eq_true ⟨h, h'⟩]
        · rw [decide_eq_false h', decide_eq_false (by omega)]
      · rw [decide_eq_false h, cond_false, decide_eq_false (by omega)]
    rw [m0, bind_some']
    have rest : ∀ r, m_eponymref01_value_K4 s r = m_eponymref01_value_K8 s r := fun r => by
      unfold m_eponymref01_value_K4
      rw [c, show (((2 : Nat) : Int) == 3) = false from rfl, cond_false, bind_some']
      unfold m_eponymref01_value_K23
      rw [cond_false, bind_some']
      unfold m_eponymref01_value_K6
      rw [c, show (((2 : Nat) : Int) == 4) = false from rfl, cond_false, bind_some']
      unfold m_eponymref01_value_K21
      rw [cond_false, bind_some']
    have g1 := bt_lo s ((1 : Nat) : Int)
    have g2 := bt_hi s ((1 : Nat) : Int)
    by_cases h : 192 ≤ bt s 0 ∧ bt s 0 < 224
    · rw [decide_eq_true h]
      unfold m_eponymref01_value_K25
      rw [cond_true, bind_some', w32 (x := bt s 0) (by omega) (by omega), w32 (by omega) (by omega), rest, pos _ (by omega), v_step (by omega) (by omega) (by omega) (by omega)]
      rw [valS2, hg 0, hg 1, e0]
      by_cases hc6 : bt s ((1 : Nat) : Int) < 128 ∨ 191 < bt s ((1 : Nat) : Int)
      · rw [if_pos hc6, if_neg (by omega)]; rfl
      · rw [if_neg hc6, if_pos (by omega), v_end (by omega)]; rfl
    · rw [decide_eq_false h]
      unfold m_eponymref01_value_K25
      rw [cond_false, bind_some', rest, neg _ (by omega)]
      rw [valS2, hg 0, hg 1, e0, if_neg (by omega)]
  · rw [c, show (((3 : Nat) : Int) == 1) = false from rfl, cond_false, bind_some']
    unfold m_eponymref01_value_K2
    rw [cond_false, c, show (((3 : Nat) : Int) == 2) = false from rfl, cond_false, bind_some']
    unfold m_eponymref01_value_K25
    rw [cond_false, bind_some']
    unfold m_eponymref01_value_K4
    rw [c, show (((3 : Nat) : Int) == 3) = true from rfl, cond_true, w32 (x := bt s 0) (by omega) (by omega)]
    have m0 : (bif decide (bt s 0 ≥ 224) then some (decide (bt s 0 < 240)) else some false) = some (decide (224 ≤ bt s 0 ∧ bt s 0 < 240)) := by
      by_cases h : bt s 0 ≥ 224
      · rw [decide_eq_true h, cond_true]
        by_cases h' : bt s 0 < 240
        · rw [decide_eq_true h', decide_eq_true ⟨h, h'⟩]
        · rw [decide_eq_false h', decide_eq_false (by omega)]
      · rw [decide_eq_false h, cond_false, decide_eq_false (by omega)]
    rw [m0, bind_some']
    have rest : ∀ r, m_eponymref01_value_K6 s r = m_eponymref01_value_K8 s r := fun r => by
      unfold m_eponymref01_value_K6
      rw [c, show (((3 : Nat) : Int) == 4) = false from rfl, cond_false, bind_some']
      unfold m_eponymref01_value_K21
      rw [cond_false, bind_some']
    have g1 := bt_lo s ((1 : Nat) : Int)
    have g2 := bt_hi s ((1 : Nat) : Int)
    have k1 := bt_lo s ((1 + 1 : Nat) : Int)
    have k2 := bt_hi s ((1 + 1 : Nat) : Int)
    by_cases h : 224 ≤ bt s 0 ∧ bt s 0 < 240
    · rw [decide_eq_true h]
      unfold m_eponymref01_value_K23
      rw [cond_true, bind_some', w32 (x := bt s 0) (by omega) (by omega), w32 (by omega) (by omega), rest, pos _ (by omega), v_step (by omega) (by omega) (by omega) (by omega)]
      rw [valS3, hg 0, hg 1, e2, e0]
      by_cases hc6 : bt s ((1 : Nat) : Int) < 128 ∨ 191 < bt s ((1 : Nat) : Int)
      · rw [if_pos hc6, if_neg (by omega)]; rfl
      · rw [if_neg hc6, v_step (by omega) (by omega) (by omega) (by omega)]
        by_cases hc8 : bt s ((1 + 1 : Nat) : Int) < 128 ∨ 191 < bt s ((1 + 1 : Nat) : Int)
        · rw [if_pos hc8, if_neg (by omega)]; rfl
        · rw [if_neg hc8, if_pos (by omega), v_end (by omega)]; rfl
    · rw [decide_eq_false h]
      unfold m_eponymref01_value_K23
      rw [cond_false, bind_some', rest, neg _ (by omega)]
      rw [valS3, hg 0, hg 1, e2, e0, if_neg (by omega)]
  · rw [c, show (((4 : Nat) : Int) == 1) = false from rfl, cond_false, bind_some']
    unfold m_eponymref01_value_K2
    rw [cond_false, c, show (((4 : Nat) : Int) == 2) = false from rfl, cond_false, bind_some']
    unfold m_eponymref01_value_K25
    rw [cond_false, bind_some']
    unfold m_eponymref01_value_K4
    rw [c, show (((4 : Nat) : Int) == 3) = false from rfl, cond_false, bind_some']
    unfold m_eponymref01_value_K23
    rw [cond_false, bind_some']
    unfold m_eponymref01_value_K6
    rw [c, show (((4 : Nat) : Int) == 4) = true from rfl, cond_true, w32 (x := bt s 0) (by omega) (by omega)]
    have m0 : (bif decide (bt s 0 ≥ 240) then some (decide (bt s 0 < 248)) else some false) = some (decide (240 ≤ bt s 0 ∧ bt s 0 < 248)) := by
      by_cases h : bt s 0 ≥ 240
      · rw [decide_eq_true h, cond_true]
        by_cases h' : bt s 0 < 248
        · rw [decide_eq_true h', decide_eq_true ⟨h, h'⟩]
        · rw [decide_eq_false h', decide_eq_false (by omega)]
      · rw [decide_eq_false h, cond_false, decide_eq_false (by omega)]
    rw [m0, bind_some']
    have g1 := bt_lo s ((1 : Nat) : Int)
    have g2 := bt_hi s ((1 : Nat) : Int)
    have k1 := bt_lo s ((1 + 1 : Nat) : Int)
    have k2 := bt_hi s ((1 + 1 : Nat) : Int)
    have q1 := bt_lo s ((1 + 1 + 1 : Nat) : Int)
    have q2 := bt_hi s ((1 + 1 + 1 : Nat) : Int)
    by_cases h : 240 ≤ bt s 0 ∧ bt s 0 < 248
    · rw [decide_eq_true h]
      unfold m_eponymref01_value_K21
      rw [cond_true, bind_some', w32 (x := bt s 0) (by omega) (by omega), w32 (by omega) (by omega), pos _ (by omega), v_step (by omega) (by omega) (by omega) (by omega)]
      rw [valS4, hg 0, hg 1, e2, e3, e0]
      by_cases hc6 : bt s ((1 : Nat) : Int) < 128 ∨ 191 < bt s ((1 : Nat) : Int)
      · rw [if_pos hc6, if_neg (by omega)]; rfl
      · rw [if_neg hc6, v_step (by omega) (by omega) (by omega) (by omega)]
        by_cases hc8 : bt s ((1 + 1 : Nat) : Int) < 128 ∨ 191 < bt s ((1 + 1 : Nat) : Int)
        · rw [if_pos hc8, if_neg (by omega)]; rfl
        · rw [if_neg hc8, v_step (by omega) (by omega) (by omega) (by omega)]
          by_cases hc10 : bt s ((1 + 1 + 1 : Nat) : Int) < 128 ∨ 191 < bt s ((1 + 1 + 1 : Nat) : Int)
          · rw [if_pos hc10, if_neg (by omega)]; rfl
          · rw [if_neg hc10, if_pos (by omega), v_end (by omega)]; rfl
    · rw [decide_eq_false h]
      unfold m_eponymref01_value_K21
      rw [cond_false, bind_some', neg _ (by omega)]
      rw [valS4, hg 0, hg 1, e2, e3, e0, if_neg (by omega)]
theorem wu8 {x : Int} (h : 0 ≤ x) (h' : x ≤ 255) : IntKind.wrap .u8 x = x := by
  have e1 : (IntKind.u8).bits = 8 := rfl
  have e2 : (IntKind.u8).signed = false := rfl
  simp only [IntKind.wrap, e1, e2, Bool.false_and]
  simp
  omega
theorem strNums_list (l : List Int) : (strOfNums l).toList = l.map fun n => UInt8.ofNat n.toNat := by
  rw [ByteArray.toList_eq, strOfNums_data]
theorem bt_byte (e : ByteArray) (i : Nat) (hi : i < e.size) : e.data.toList[i]? = some (UInt8.ofNat (bt e (i : Int)).toNat) := by
  have hlt : i < e.data.toList.length := by rw [Array.length_toList, ByteArray.size_data]; exact hi
  unfold bt
  simp only [Int.toNat_natCast]
  rw [List.getD_eq_getElem?_getD, List.getElem?_eq_getElem hlt]
  simp
/-- Two texts byte by byte. -/
theorem strEq (l : List Int) (h : ∀ x ∈ l, 0 ≤ x ∧ x ≤ 255) (e : ByteArray) : ((strOfNums l).toList == e.toList) = decide (l.length = e.size ∧ ∀ i, i < l.length → l.getD i 0 = bt e ((i : Nat) : Int)) := by
  rw [Bool.eq_iff_iff, beq_iff_eq, decide_eq_true_eq, strNums_list, ByteArray.toList_eq]
  constructor
  · intro he
    have hl : l.length = e.size := by
      have := congrArg List.length he
      have h2 : e.data.toList.length = e.size := by rw [Array.length_toList, ByteArray.size_data]
      rw [List.length_map, h2] at this
      exact this
    refine ⟨hl, fun i hi => ?_⟩
    have h1 := congrArg (fun q => q[i]?) he
    simp only [List.getElem?_map] at h1
    rw [bt_byte e i (by omega), List.getElem?_eq_getElem hi, Option.map_some] at h1
    have h2 := h l[i] (List.getElem_mem hi)
    have b0 := bt_lo e (i : Int)
    have b1 := bt_hi e (i : Int)
    have h3 := congrArg UInt8.toNat (Option.some.inj h1)
    rw [UInt8.toNat_ofNat', UInt8.toNat_ofNat', Nat.mod_eq_of_lt (by omega), Nat.mod_eq_of_lt (by omega)] at h3
    rw [List.getD_eq_getElem?_getD, List.getElem?_eq_getElem hi, Option.getD_some]
    omega
  · rintro ⟨hl, hg⟩
    apply List.ext_getElem?
    intro i
    by_cases hi : i < l.length
    · rw [List.getElem?_map, bt_byte e i (by omega), List.getElem?_eq_getElem hi, Option.map_some]
      have := hg i hi
      rw [List.getD_eq_getElem?_getD, List.getElem?_eq_getElem hi, Option.getD_some] at this
      rw [this]
    · rw [List.getElem?_eq_none (by simpa using hi), List.getElem?_eq_none (by rw [Array.length_toList, ByteArray.size_data]; omega)]
/-- A rune's bytes. -/
def formL (v : Int) : List Int :=
  if v < 128 then [v] else if v < 2048 then [192 + v / 64, 128 + v % 64]
  else if v < 65536 then [224 + v / 4096, 128 + v / 64 % 64, 128 + v % 64]
  else [240 + v / 262144, 128 + v / 4096 % 64, 128 + v / 64 % 64, 128 + v % 64]
theorem formL_bytes {v : Int} (h0 : 0 ≤ v) (h1 : v ≤ 1114111) : ∀ x ∈ formL v, 0 ≤ x ∧ x ≤ 255 := by
  intro x hx
  unfold formL at hx
  split at hx
  · simp at hx; omega
  · split at hx
    · simp at hx; rcases hx with rfl | rfl <;> omega
    · split at hx
      · simp at hx; rcases hx with rfl | rfl | rfl <;> omega
      · simp at hx; rcases hx with rfl | rfl | rfl | rfl <;> omega
theorem form_eq {v : Int} (h0 : 0 ≤ v) (h1 : v ≤ 1114111) : m_eponymref01_Form v = some (strOfNums (formL v)) := by
  unfold m_eponymref01_Form formL
  have d : ∀ k : Int, Int.tdiv v k = v / k := fun k => Int.tdiv_eq_ediv_of_nonneg h0
  by_cases a : v < 128
  · rw [decide_eq_true a, cond_true, if_pos a, wu8 h0 (by omega)]
  rw [decide_eq_false a, cond_false, if_neg a]
  by_cases b : v < 2048
  · rw [decide_eq_true b, cond_true, if_pos b, d, Int.tmod_eq_emod_of_nonneg h0, w32 (x := v / 64) (by omega) (by omega), w32 (by omega) (by omega), w32 (by omega) (by omega), wu8 (by omega) (by omega), wu8 (by omega) (by omega)]
  rw [decide_eq_false b, cond_false, if_neg b]
  by_cases c : v < 65536
  · rw [decide_eq_true c, cond_true, if_pos c, d, d, w32 (x := v / 64) (by omega) (by omega), w32 (x := v / 4096) (by omega) (by omega), Int.tmod_eq_emod_of_nonneg h0, Int.tmod_eq_emod_of_nonneg (by omega), w32 (by omega) (by omega), w32 (by omega) (by omega), w32 (by omega) (by omega), wu8 (by omega) (by omega), wu8 (by omega) (by omega), wu8 (by omega) (by omega)]
  rw [decide_eq_false c, cond_false, if_neg c, d, d, d, w32 (x := v / 64) (by omega) (by omega), w32 (x := v / 4096) (by omega) (by omega), w32 (x := v / 262144) (by omega) (by omega), Int.tmod_eq_emod_of_nonneg h0, Int.tmod_eq_emod_of_nonneg (a := v / 64) (by omega), Int.tmod_eq_emod_of_nonneg (a := v / 4096) (by omega), w32 (by omega) (by omega), w32 (by omega) (by omega), w32 (by omega) (by omega), w32 (by omega) (by omega), wu8 (by omega) (by omega), wu8 (by omega) (by omega), wu8 (by omega) (by omega), wu8 (by omega) (by omega)]
/-- May a number be a rune of a text? -/
def rightS (v : Int) : Bool := decide (0 ≤ v ∧ v ≤ 1114111 ∧ ¬ (55296 ≤ v ∧ v ≤ 57343))
theorem rightS_eq (v : Int) : m_eponymref01_Right v = some (rightS v) := by
  unfold m_eponymref01_Right rightS
  by_cases a : v ≥ 0
  · rw [decide_eq_true a, cond_true]
    by_cases b : v ≤ 1114111
    · rw [decide_eq_true b, cond_true]
      by_cases c : v ≥ 55296
      · rw [decide_eq_true c, cond_true]
        by_cases d : v ≤ 57343
        · rw [decide_eq_true d, decide_eq_false (by omega)]; rfl
        · rw [decide_eq_false d, decide_eq_true (by omega)]; rfl
      · rw [decide_eq_false c, cond_false, decide_eq_true (by omega)]
    · rw [decide_eq_false b, cond_false, decide_eq_false (by omega)]
  · rw [decide_eq_false a, cond_false, decide_eq_false (by omega)]
/-- Do n bytes stand for a rune? -/
def accS (n : Nat) (g : Nat → Int) : Prop :=
  if n = 1 then g 0 < 128
  else if n = 2 then 194 ≤ g 0 ∧ g 0 < 224 ∧ 128 ≤ g 1 ∧ g 1 ≤ 191
  else if n = 3 then 224 ≤ g 0 ∧ g 0 < 240 ∧ (128 ≤ g 1 ∧ g 1 ≤ 191) ∧ (128 ≤ g 2 ∧ g 2 ≤ 191) ∧ (g 0 = 224 → 160 ≤ g 1) ∧ (g 0 = 237 → g 1 ≤ 159)
  else 240 ≤ g 0 ∧ g 0 ≤ 244 ∧ (128 ≤ g 1 ∧ g 1 ≤ 191) ∧ (128 ≤ g 2 ∧ g 2 ≤ 191) ∧ (128 ≤ g 3 ∧ g 3 ≤ 191) ∧ (g 0 = 240 → 144 ≤ g 1) ∧ (g 0 = 244 → g 1 ≤ 143)
instance (n : Nat) (g : Nat → Int) : Decidable (accS n g) := by unfold accS; infer_instance
theorem acc_iff (n : Nat) (g : Nat → Int) (hn : n = 1 ∨ n = 2 ∨ n = 3 ∨ n = 4) (hb : ∀ i, 0 ≤ g i ∧ g i ≤ 255) :
    (0 ≤ valS n g ∧ rightS (valS n g) = true ∧ (formL (valS n g)).length = n ∧ ∀ i, i < (formL (valS n g)).length → (formL (valS n g)).getD i 0 = g i) ↔ accS n g := by
  have b0 := hb 0
  have b1 := hb 1
  have b2 := hb 2
  have b3 := hb 3
  rcases hn with rfl | rfl | rfl | rfl
  · rw [valS1]
    show _ ↔ g 0 < 128
    by_cases h : g 0 < 128
    · rw [if_pos h]
      refine ⟨fun _ => h, fun _ => ⟨b0.1, by unfold rightS; rw [decide_eq_true_eq]; omega, by unfold formL; rw [if_pos h]; rfl, fun i hi => ?_⟩⟩
      unfold formL at hi ⊢
      rw [if_pos h] at hi ⊢
      have : i = 0 := by simpa using hi
      subst this; rfl
    · rw [if_neg h]
      exact ⟨fun q => absurd q.1 (by omega), fun q => absurd q h⟩
  · rw [valS2]
    show _ ↔ 194 ≤ g 0 ∧ g 0 < 224 ∧ 128 ≤ g 1 ∧ g 1 ≤ 191
    by_cases h : 192 ≤ g 0 ∧ g 0 < 224 ∧ 128 ≤ g 1 ∧ g 1 ≤ 191
    · rw [if_pos h]
      generalize hv : (g 0 - 192) * 64 + g 1 - 128 = v
      constructor
      · rintro ⟨_, _, hl, _⟩
        refine ⟨?_, h.2⟩
        unfold formL at hl
        split at hl
        · simp at hl
        · omega
      · intro q
        have e : formL v = [g 0, g 1] := by
          unfold formL
          rw [if_neg (by omega), if_pos (by omega)]
          congr 1
          · omega
          · congr 1; omega
        rw [e]
        refine ⟨by omega, by unfold rightS; rw [decide_eq_true_eq]; omega, rfl, fun i hi => ?_⟩
        have hi : i < 2 := hi
        match i, hi with
        | 0, _ => rfl
        | 1, _ => rfl
    · rw [if_neg h]
      exact ⟨fun q => absurd q.1 (by omega), fun q => absurd (show 192 ≤ g 0 ∧ g 0 < 224 ∧ 128 ≤ g 1 ∧ g 1 ≤ 191 by omega) h⟩
  · rw [valS3]
    show _ ↔ 224 ≤ g 0 ∧ g 0 < 240 ∧ (128 ≤ g 1 ∧ g 1 ≤ 191) ∧ (128 ≤ g 2 ∧ g 2 ≤ 191) ∧ (g 0 = 224 → 160 ≤ g 1) ∧ (g 0 = 237 → g 1 ≤ 159)
    by_cases h : 224 ≤ g 0 ∧ g 0 < 240 ∧ (128 ≤ g 1 ∧ g 1 ≤ 191) ∧ 128 ≤ g 2 ∧ g 2 ≤ 191
    · rw [if_pos h]
      generalize hv : ((g 0 - 224) * 64 + g 1 - 128) * 64 + g 2 - 128 = v
      constructor
      · rintro ⟨_, hr, hl, _⟩
        unfold rightS at hr
        rw [decide_eq_true_eq] at hr
        unfold formL at hl
        split at hl
        · simp at hl
        · split at hl
          · simp at hl
          · omega
      · intro q
        have e : formL v = [g 0, g 1, g 2] := by
          unfold formL
          rw [if_neg (by omega), if_neg (by omega), if_pos (by omega)]
          congr 1
          · omega
          · congr 1
            · omega
            · congr 1; omega
        rw [e]
        refine ⟨by omega, by unfold rightS; rw [decide_eq_true_eq]; omega, rfl, fun i hi => ?_⟩
        have hi : i < 3 := hi
        match i, hi with
        | 0, _ => rfl
        | 1, _ => rfl
        | 2, _ => rfl
    · rw [if_neg h]
      exact ⟨fun q => absurd q.1 (by omega), fun q => absurd (show 224 ≤ g 0 ∧ g 0 < 240 ∧ (128 ≤ g 1 ∧ g 1 ≤ 191) ∧ 128 ≤ g 2 ∧ g 2 ≤ 191 by omega) h⟩
  · rw [valS4]
    show _ ↔ 240 ≤ g 0 ∧ g 0 ≤ 244 ∧ (128 ≤ g 1 ∧ g 1 ≤ 191) ∧ (128 ≤ g 2 ∧ g 2 ≤ 191) ∧ (128 ≤ g 3 ∧ g 3 ≤ 191) ∧ (g 0 = 240 → 144 ≤ g 1) ∧ (g 0 = 244 → g 1 ≤ 143)
    by_cases h : 240 ≤ g 0 ∧ g 0 < 248 ∧ (128 ≤ g 1 ∧ g 1 ≤ 191) ∧ (128 ≤ g 2 ∧ g 2 ≤ 191) ∧ 128 ≤ g 3 ∧ g 3 ≤ 191
    · rw [if_pos h]
      generalize hv : (((g 0 - 240) * 64 + g 1 - 128) * 64 + g 2 - 128) * 64 + g 3 - 128 = v
      constructor
      · rintro ⟨_, hr, hl, _⟩
        unfold rightS at hr
        rw [decide_eq_true_eq] at hr
        unfold formL at hl
        split at hl
        · simp at hl
        · split at hl
          · simp at hl
          · split at hl
            · simp at hl
            · omega
      · intro q
        have e : formL v = [g 0, g 1, g 2, g 3] := by
          unfold formL
          rw [if_neg (by omega), if_neg (by omega), if_neg (by omega)]
          congr 1
          · omega
          · congr 1
            · omega
            · congr 1
              · omega
              · congr 1; omega
        rw [e]
        refine ⟨by omega, by unfold rightS; rw [decide_eq_true_eq]; omega, rfl, fun i hi => ?_⟩
        have hi : i < 4 := hi
        match i, hi with
        | 0, _ => rfl
        | 1, _ => rfl
        | 2, _ => rfl
        | 3, _ => rfl
    · rw [if_neg h]
      exact ⟨fun q => absurd q.1 (by omega), fun q => absurd (show 240 ≤ g 0 ∧ g 0 < 248 ∧ (128 ≤ g 1 ∧ g 1 ≤ 191) ∧ (128 ≤ g 2 ∧ g 2 ≤ 191) ∧ 128 ≤ g 3 ∧ g 3 ≤ 191 by omega) h⟩
theorem val_hi (n : Nat) (g : Nat → Int) (hn : n = 1 ∨ n = 2 ∨ n = 3 ∨ n = 4) : valS n g ≤ 2097151 := by
  rcases hn with rfl | rfl | rfl | rfl
  · rw [valS1]; split <;> omega
  · rw [valS2]; split <;> omega
  · rw [valS3]; split <;> omega
  · rw [valS4]; split <;> omega
/-- One length tried. -/
theorem l29_eq (s : ByteArray) (hs : s.size ≤ 100000) (at_ n : Nat) (g : Nat → Int) (hg : ∀ i, g i = bt s ((at_ + i : Nat) : Int)) (hn : n = 1 ∨ n = 2 ∨ n = 3 ∨ n = 4) (hle : at_ + n ≤ s.size) :
    m_eponymref01_Next_L29 s (at_ : Int) (n : Int) = if accS n g then some (.done (.inr (valS n g, (n : Int), 0))) else some (.next ((n + 1 : Nat) : Int)) := by
  have hw : IntKind.wrap .i64 ((at_ : Int) + (n : Int)) = ((at_ + n : Nat) : Int) := by rw [w64 (by omega) (by omega)]; omega
  have hb : ∀ i, 0 ≤ g i ∧ g i ≤ 255 := fun i => by rw [hg i]; exact ⟨bt_lo _ _, bt_hi _ _⟩
  have hsz : (s.extract at_ (at_ + n)).size = n := by rw [ext_size _ _ _ (by omega) hle]; omega
  -- bytes of the part, made to agree with g behind it
  have hval : m_eponymref01_value (s.extract at_ (at_ + n)) = some (valS n g) := by
    have h1 := value_eq (s.extract at_ (at_ + n)) (fun i => bt (s.extract at_ (at_ + n)) ((i : Nat) : Int)) (fun _ => rfl) (by omega) (by omega)
    rw [hsz] at h1
    rw [h1]
    refine congrArg some ?_
    have e : ∀ i, i < n → bt (s.extract at_ (at_ + n)) ((i : Nat) : Int) = g i := fun i hi => by rw [bt_ext s at_ (at_ + n) i (by omega) hle, hg i]
    rcases hn with rfl | rfl | rfl | rfl
    · rw [valS1, valS1, e 0 (by omega)]
    · rw [valS2, valS2, e 0 (by omega), e 1 (by omega)]
    · rw [valS3, valS3, e 0 (by omega), e 1 (by omega), e 2 (by omega)]
    · rw [valS4, valS4, e 0 (by omega), e 1 (by omega), e 2 (by omega), e 3 (by omega)]
  have key : (bif decide (valS n g ≥ 0) then Option.bind (m_eponymref01_Right (valS n g)) fun y36 => bif y36 then Option.bind (m_eponymref01_Form (valS n g)) fun y37 =>
      if 0 ≤ (at_ : Int) ∧ (at_ : Int) ≤ ((at_ + n : Nat) : Int) ∧ ((at_ + n : Nat) : Int) ≤ ((s.size : Nat) : Int) then some (y37.toList == (s.extract at_ (at_ + n)).toList) else none
      else some false else some false : Option Bool) = some (decide (accS n g)) := by
    have hacc := acc_iff n g hn hb
    by_cases h0 : valS n g ≥ 0
    · rw [decide_eq_true h0, cond_true, rightS_eq, bind_some']
      cases hr : rightS (valS n g) with
      | false =>
        rw [cond_false]
        rw [decide_eq_false (fun h => by have := (hacc.2 h).2.1; rw [hr] at this; cases this)]
      | true =>
        have hr' := hr
        unfold rightS at hr'
        rw [decide_eq_true_eq] at hr'
        rw [cond_true, form_eq h0 hr'.2.1, bind_some', if_pos ⟨by omega, by omega, by omega⟩, strEq _ (formL_bytes h0 hr'.2.1), hsz]
        refine congrArg some ?_
        rw [decide_eq_decide, ← hacc]
        constructor
        · rintro ⟨h1, h2⟩
          exact ⟨h0, hr, h1, fun i hi => by rw [h2 i hi, bt_ext s at_ (at_ + n) i (by omega) hle, hg i]⟩
        · rintro ⟨_, _, h1, h2⟩
          exact ⟨h1, fun i hi => by rw [h2 i hi, bt_ext s at_ (at_ + n) i (by omega) hle, hg i]⟩
    · rw [decide_eq_false h0, cond_false, decide_eq_false (fun h => h0 (hacc.2 h).1)]
  unfold m_eponymref01_Next_L29 m_eponymref01_Next_K32
  rw [decide_eq_true (show (n : Int) ≤ 4 by omega), cond_true, hw, decide_eq_true (by omega), bind_some', cond_true, if_pos ⟨by omega, by omega, by omega⟩]
  simp only [Int.toNat_natCast]
  rw [hval, bind_some', key, bind_some']
  unfold m_eponymref01_Next_K35
  by_cases h : accS n g
  · rw [decide_eq_true h, cond_true, if_pos h]
  · rw [decide_eq_false h, cond_false, if_neg h, up (by omega)]
theorem l29_end (s : ByteArray) (hs : s.size ≤ 100000) (at_ n : Nat) (hn : n ≤ 5) (h : 4 < n ∨ s.size < at_ + n) (ha : at_ ≤ s.size) : m_eponymref01_Next_L29 s (at_ : Int) (n : Int) = some (.done (.inl ())) := by
  have hw : IntKind.wrap .i64 ((at_ : Int) + (n : Int)) = ((at_ + n : Nat) : Int) := by rw [w64 (by omega) (by omega)]; omega
  unfold m_eponymref01_Next_L29 m_eponymref01_Next_K32
  by_cases h4 : n ≤ 4
  · rw [decide_eq_true (show (n : Int) ≤ 4 by omega), cond_true, hw, decide_eq_false (by omega)]; rfl
  · rw [decide_eq_false (by omega)]; rfl
def padN (x : UInt8) : Nat → ByteArray → ByteArray
  | 0, a => a
  | k + 1, a => padN x k (a ++ ByteArray.mk #[x])
theorem size_push (a : ByteArray) (x : UInt8) : (a ++ ByteArray.mk #[x]).size = a.size + 1 := by rw [ByteArray.size_append]; rfl
theorem pad_size (x : UInt8) : ∀ (k : Nat) (a : ByteArray), (padN x k a).size = a.size + k
  | 0, a => rfl
  | k + 1, a => by rw [padN, pad_size x k, size_push]; omega
theorem pad_bt (x : UInt8) : ∀ (k : Nat) (a : ByteArray) (i : Nat), i < a.size + k → bt (padN x k a) (i : Int) = if i < a.size then bt a (i : Int) else (x.toNat : Int)
  | 0, a, i, h => by rw [padN, if_pos (by omega)]
  | k + 1, a, i, h => by
    rw [padN, pad_bt x k _ i (by rw [size_push]; omega), size_push]
    by_cases h1 : i < a.size
    · rw [if_pos (by omega), if_pos h1, bt_app_lo a _ i h1]
    · rw [if_neg h1]
      by_cases h2 : i < a.size + 1
      · rw [if_pos h2]
        have e : i = a.size + 0 := by omega
        rw [e, bt_app_hi a _ 0]
        rfl
      · rw [if_neg h2]
theorem pad_run (n : Nat) (hn : n ≤ 4) : ∀ (k : Nat) (a b : ByteArray), a.size + k = n → b.size = a.size → iter (m_eponymref01_Next_L20 (n : Int)) (a, b) = some (padN 128 k a, padN 191 k b)
  | 0, a, b, h, hb => by
    refine iter_done ?_
    unfold m_eponymref01_Next_L20
    simp only
    rw [decide_eq_false (by omega)]; rfl
  | k + 1, a, b, h, hb => by
    rw [iter_next (s' := (a ++ ByteArray.mk #[128], b ++ ByteArray.mk #[191]))]
    · rw [pad_run n hn k _ _ (by rw [size_push]; omega) (by rw [size_push, size_push]; omega)]; rfl
    · unfold m_eponymref01_Next_L20
      simp only
      have o : (ByteArray.mk #[128]).size = 1 := rfl
      have o' : (ByteArray.mk #[191]).size = 1 := rfl
      rw [decide_eq_true (by omega), cond_true, if_pos (by omega), if_pos (by omega)]
theorem value_of (s : ByteArray) (n : Nat) (g : Nat → Int) (hs : s.size = n) (hn : n = 1 ∨ n = 2 ∨ n = 3 ∨ n = 4) (e : ∀ i, i < n → bt s ((i : Nat) : Int) = g i) : m_eponymref01_value s = some (valS n g) := by
  have h1 := value_eq s (fun i => bt s ((i : Nat) : Int)) (fun _ => rfl) (by omega) (by omega)
  rw [hs] at h1
  rw [h1]
  refine congrArg some ?_
  rcases hn with rfl | rfl | rfl | rfl
  · rw [valS1, valS1, e 0 (by omega)]
  · rw [valS2, valS2, e 0 (by omega), e 1 (by omega)]
  · rw [valS3, valS3, e 0 (by omega), e 1 (by omega), e 2 (by omega)]
  · rw [valS4, valS4, e 0 (by omega), e 1 (by omega), e 2 (by omega), e 3 (by omega)]
/-- Is there a rune of so many bytes from a to b? -/
def someS (a b n : Int) : Prop :=
  (55296 ≤ max a (if n = 4 then 65536 else if n = 3 then 2048 else 128) ∧ max a (if n = 4 then 65536 else if n = 3 then 2048 else 128) ≤ 57343 → 57344 ≤ min b (if n = 4 then 1114111 else if n = 3 then 65535 else 2047)) ∧
  (¬ (55296 ≤ max a (if n = 4 then 65536 else if n = 3 then 2048 else 128) ∧ max a (if n = 4 then 65536 else if n = 3 then 2048 else 128) ≤ 57343) → max a (if n = 4 then 65536 else if n = 3 then 2048 else 128) ≤ min b (if n = 4 then 1114111 else if n = 3 then 65535 else 2047))
instance (a b n : Int) : Decidable (someS a b n) := by unfold someS; infer_instance
theorem some_eq (a b n : Int) : m_eponymref01_some a b n = some (decide (someS a b n)) := by
  unfold m_eponymref01_some
  have h1 : (bif (n == 3) then some (2048, 65535) else some (128, 2047) : Option (Int × Int)) = some (if n = 3 then (2048, 65535) else (128, 2047)) := by
    by_cases h : n = 3
    · subst h; rfl
    · rw [beq_false_of_ne h, if_neg h]; rfl
  rw [h1, bind_some']
  unfold m_eponymref01_some_K2
  have h2 : ∀ q : Int × Int, (bif (n == 4) then some (65536, 1114111) else some (q.1, q.2) : Option (Int × Int)) = some (if n = 4 then (65536, 1114111) else q) := fun q => by
    by_cases h : n = 4
    · subst h; rfl
    · rw [beq_false_of_ne h, if_neg h]; rfl
  rw [h2, bind_some']
  generalize hq : (if n = 4 then ((65536, 1114111) : Int × Int) else if n = 3 then (2048, 65535) else (128, 2047)) = q
  have q1 : (if n = 4 then 65536 else if n = 3 then 2048 else 128 : Int) = q.1 := by rw [← hq]; (repeat' split) <;> rfl
  have q2 : (if n = 4 then 1114111 else if n = 3 then 65535 else 2047 : Int) = q.2 := by rw [← hq]; (repeat' split) <;> rfl
  have hS : someS a b n ↔ ((55296 ≤ max a q.1 ∧ max a q.1 ≤ 57343 → 57344 ≤ min b q.2) ∧ (¬ (55296 ≤ max a q.1 ∧ max a q.1 ≤ 57343) → max a q.1 ≤ min b q.2)) := by
    unfold someS
    rw [q1, q2]
  unfold m_eponymref01_some_K4
  have h3 : (bif decide (a < q.1) then some q.1 else some a) = some (max a q.1) := by
    by_cases h : a < q.1
    · rw [decide_eq_true h, cond_true]; refine congrArg some ?_; omega
    · rw [decide_eq_false h, cond_false]; refine congrArg some ?_; omega
  rw [h3, bind_some']
  unfold m_eponymref01_some_K6
  have h4 : (bif decide (b > q.2) then some q.2 else some b) = some (min b q.2) := by
    by_cases h : b > q.2
    · rw [decide_eq_true h, cond_true]; refine congrArg some ?_; omega
    · rw [decide_eq_false h, cond_false]; refine congrArg some ?_; omega
  rw [h4, bind_some']
  unfold m_eponymref01_some_K8
  generalize max a q.1 = A at hS ⊢
  generalize min b q.2 = B at hS ⊢
  have h5 : (bif decide (A ≥ 55296) then some (decide (A ≤ 57343)) else some false) = some (decide (55296 ≤ A ∧ A ≤ 57343)) := by
    by_cases h : A ≥ 55296
    · rw [decide_eq_true h, cond_true]
      by_cases h' : A ≤ 57343
      · rw [decide_eq_true h', decide_eq_true ⟨h, h'⟩]
      · rw [decide_eq_false h', decide_eq_false (by omega)]
    · rw [decide_eq_false h, cond_false, decide_eq_false (by omega)]
  rw [h5, bind_some']
  unfold m_eponymref01_some_K10
  by_cases h : 55296 ≤ A ∧ A ≤ 57343
  · rw [decide_eq_true h, cond_true]
    refine congrArg some ?_
    rw [decide_eq_decide, hS]
    exact ⟨fun x => ⟨fun _ => x, fun y => absurd h y⟩, fun x => x.1 h⟩
  · rw [decide_eq_false h, cond_false]
    refine congrArg some ?_
    rw [decide_eq_decide, hS]
    exact ⟨fun x => ⟨fun y => absurd y h, fun _ => x⟩, fun x => x.2 h⟩
/-- May the R bytes be the beginning of a rune of n bytes? -/
def endS (n R : Nat) (g : Nat → Int) : Prop :=
  if n = 2 then 194 ≤ g 0 ∧ g 0 < 224
  else if n = 3 then 224 ≤ g 0 ∧ g 0 < 240 ∧ (2 ≤ R → 128 ≤ g 1 ∧ g 1 ≤ 191 ∧ (g 0 = 224 → 160 ≤ g 1) ∧ (g 0 = 237 → g 1 ≤ 159))
  else 240 ≤ g 0 ∧ g 0 ≤ 244 ∧ (2 ≤ R → 128 ≤ g 1 ∧ g 1 ≤ 191 ∧ (g 0 = 240 → 144 ≤ g 1) ∧ (g 0 = 244 → g 1 ≤ 143)) ∧ (3 ≤ R → 128 ≤ g 2 ∧ g 2 ≤ 191)
instance (n R : Nat) (g : Nat → Int) : Decidable (endS n R g) := by unfold endS; infer_instance
theorem end_iff (n R : Nat) (g : Nat → Int) (hR : 1 ≤ R) (hRn : R < n) (hn : n ≤ 4) (hb : ∀ i, 0 ≤ g i ∧ g i ≤ 255) :
    (0 ≤ valS n (fun i => if i < R then g i else 128) ∧ 0 ≤ valS n (fun i => if i < R then g i else 191) ∧ someS (valS n (fun i => if i < R then g i else 128)) (valS n (fun i => if i < R then g i else 191)) (n : Int)) ↔ endS n R g := by
  have b0 := hb 0
  have b1 := hb 1
  have b2 := hb 2
  have c : (n = 2 ∧ R = 1) ∨ (n = 3 ∧ R = 1) ∨ (n = 3 ∧ R = 2) ∨ (n = 4 ∧ R = 1) ∨ (n = 4 ∧ R = 2) ∨ (n = 4 ∧ R = 3) := by omega
  unfold someS
  rcases c with ⟨rfl, rfl⟩ | ⟨rfl, rfl⟩ | ⟨rfl, rfl⟩ | ⟨rfl, rfl⟩ | ⟨rfl, rfl⟩ | ⟨rfl, rfl⟩
  · rw [valS2, valS2]
    show _ ↔ 194 ≤ g 0 ∧ g 0 < 224
    simp
    (repeat' split) <;> omega
  · rw [valS3, valS3]
    show _ ↔ 224 ≤ g 0 ∧ g 0 < 240 ∧ (2 ≤ 1 → 128 ≤ g 1 ∧ g 1 ≤ 191 ∧ (g 0 = 224 → 160 ≤ g 1) ∧ (g 0 = 237 → g 1 ≤ 159))
    simp
    (repeat' split) <;> omega
  · rw [valS3, valS3]
    show _ ↔ 224 ≤ g 0 ∧ g 0 < 240 ∧ (2 ≤ 2 → 128 ≤ g 1 ∧ g 1 ≤ 191 ∧ (g 0 = 224 → 160 ≤ g 1) ∧ (g 0 = 237 → g 1 ≤ 159))
    simp
    (repeat' split) <;> omega
  · rw [valS4, valS4]
    show _ ↔ 240 ≤ g 0 ∧ g 0 ≤ 244 ∧ (2 ≤ 1 → 128 ≤ g 1 ∧ g 1 ≤ 191 ∧ (g 0 = 240 → 144 ≤ g 1) ∧ (g 0 = 244 → g 1 ≤ 143)) ∧ (3 ≤ 1 → 128 ≤ g 2 ∧ g 2 ≤ 191)
    simp
    (repeat' split) <;> omega
  · rw [valS4, valS4]
    show _ ↔ 240 ≤ g 0 ∧ g 0 ≤ 244 ∧ (2 ≤ 2 → 128 ≤ g 1 ∧ g 1 ≤ 191 ∧ (g 0 = 240 → 144 ≤ g 1) ∧ (g 0 = 244 → g 1 ≤ 143)) ∧ (3 ≤ 2 → 128 ≤ g 2 ∧ g 2 ≤ 191)
    simp
    (repeat' split) <;> omega
  · rw [valS4, valS4]
    show _ ↔ 240 ≤ g 0 ∧ g 0 ≤ 244 ∧ (2 ≤ 3 → 128 ≤ g 1 ∧ g 1 ≤ 191 ∧ (g 0 = 240 → 144 ≤ g 1) ∧ (g 0 = 244 → g 1 ≤ 143)) ∧ (3 ≤ 3 → 128 ≤ g 2 ∧ g 2 ≤ 191)
    simp
    (repeat' split) <;> omega
/-- One length of a rune that ends too early. -/
theorem l7_eq (s : ByteArray) (hs : s.size ≤ 100000) (at_ n R : Nat) (g : Nat → Int) (hg : ∀ i, g i = bt s ((at_ + i : Nat) : Int)) (hR : 1 ≤ R) (hsz : at_ + R = s.size) (hRn : R < n) (hn : n ≤ 4) :
    m_eponymref01_Next_L7 s (at_ : Int) (n : Int) = if endS n R g then some (.done (.inr (0, 0, 2))) else some (.next ((n + 1 : Nat) : Int)) := by
  have hb : ∀ i, 0 ≤ g i ∧ g i ≤ 255 := fun i => by rw [hg i]; exact ⟨bt_lo _ _, bt_hi _ _⟩
  have hes : (s.extract at_ s.size).size = R := by rw [ext_size _ _ _ (by omega) (Nat.le_refl _)]; omega
  obtain ⟨k, hk⟩ : ∃ k, R + k = n := ⟨n - R, by omega⟩
  have hpad : ∀ x : UInt8, m_eponymref01_value (padN x k (s.extract at_ s.size)) = some (valS n fun i => if i < R then g i else (x.toNat : Int)) := fun x => by
    refine value_of _ n _ (by rw [pad_size, hes, hk]) (by omega) fun i hi => ?_
    rw [pad_bt x k _ i (by rw [hes]; omega), hes]
    by_cases h : i < R
    · rw [if_pos h, if_pos h, bt_ext s at_ s.size i (by omega) (Nat.le_refl _), hg i]
    · rw [if_neg h, if_neg h]
  have hend := end_iff n R g hR hRn hn hb
  unfold m_eponymref01_Next_L7
  rw [decide_eq_true (by omega), cond_true]
  simp only [Int.toNat_natCast]
  rw [pad_run n hn k _ _ (by rw [hes]; exact hk) rfl, bind_some', up (by omega)]
  unfold m_eponymref01_Next_K12
  simp only
  rw [hpad 128, bind_some', hpad 191, bind_some']
  have t1 : (((128 : UInt8).toNat : Nat) : Int) = 128 := rfl
  have t2 : (((191 : UInt8).toNat : Nat) : Int) = 191 := rfl
  rw [t1, t2]
  generalize valS n (fun i => if i < R then g i else 128) = va at hend
  generalize valS n (fun i => if i < R then g i else 191) = vb at hend
  have key : (bif decide (va ≥ 0) then bif decide (vb ≥ 0) then Option.bind (m_eponymref01_some va vb (n : Int)) fun y17 => some y17 else some false else some false : Option Bool) = some (decide (endS n R g)) := by
    by_cases h0 : va ≥ 0
    · rw [decide_eq_true h0, cond_true]
      by_cases h1 : vb ≥ 0
      · rw [decide_eq_true h1, cond_true, some_eq, bind_some']
        refine congrArg some ?_
        rw [decide_eq_decide, ← hend]
        exact ⟨fun h => ⟨h0, h1, h⟩, fun h => h.2.2⟩
      · rw [decide_eq_false h1, cond_false, decide_eq_false (fun h => h1 (hend.2 h).2.1)]
    · rw [decide_eq_false h0, cond_false, decide_eq_false (fun h => h0 (hend.2 h).1)]
  rw [key, bind_some']
  unfold m_eponymref01_Next_K16
  by_cases h : endS n R g
  · rw [decide_eq_true h, if_pos h]; rfl
  · rw [decide_eq_false h, if_neg h]; rfl
/-- The rune that R bytes begin with, its length; or what is wrong: 1 (a byte), 2 (the end). -/
def nextS (R : Nat) (g : Nat → Int) : Int × Int × Int :=
  if g 0 < 128 then (g 0, 1, 0)
  else if g 0 < 194 ∨ 245 ≤ g 0 then (0, 0, 1)
  else if R ≤ 1 then (0, 0, 2)
  else if (g 1 < (if g 0 = 224 then 160 else if g 0 = 240 then 144 else 128)) ∨ (if g 0 = 237 then 159 else if g 0 = 244 then 143 else 191) < g 1 then (0, 0, 1)
  else if g 0 < 224 then ((g 0 - 192) * 64 + g 1 - 128, 2, 0)
  else if R ≤ 2 then (0, 0, 2)
  else if g 2 < 128 ∨ 191 < g 2 then (0, 0, 1)
  else if g 0 < 240 then (((g 0 - 224) * 64 + g 1 - 128) * 64 + g 2 - 128, 3, 0)
  else if R ≤ 3 then (0, 0, 2)
  else if g 3 < 128 ∨ 191 < g 3 then (0, 0, 1)
  else ((((g 0 - 240) * 64 + g 1 - 128) * 64 + g 2 - 128) * 64 + g 3 - 128, 4, 0)
def chainR (R : Nat) (g : Nat → Int) : Int × Int × Int :=
  if accS 1 g then (valS 1 g, 1, 0)
  else if R < 2 then (if endS 2 R g then (0, 0, 2) else if endS 3 R g then (0, 0, 2) else if endS 4 R g then (0, 0, 2) else (0, 0, 1))
  else if accS 2 g then (valS 2 g, 2, 0)
  else if R < 3 then (if endS 3 R g then (0, 0, 2) else if endS 4 R g then (0, 0, 2) else (0, 0, 1))
  else if accS 3 g then (valS 3 g, 3, 0)
  else if R < 4 then (if endS 4 R g then (0, 0, 2) else (0, 0, 1))
  else if accS 4 g then (valS 4 g, 4, 0) else (0, 0, 1)
theorem next_chain (s : ByteArray) (hs : s.size ≤ 100000) (at_ R : Nat) (g : Nat → Int) (hg : ∀ i, g i = bt s ((at_ + i : Nat) : Int)) (hR : 1 ≤ R) (hsz : at_ + R = s.size) : m_eponymref01_Next s (at_ : Int) = some (chainR R g) := by
  have hes : (s.extract at_ s.size).size = R := by rw [ext_size _ _ _ (by omega) (Nat.le_refl _)]; omega
  have e29 : ∀ n : Nat, (n = 1 ∨ n = 2 ∨ n = 3 ∨ n = 4) → n ≤ R → iter (m_eponymref01_Next_L29 s (at_ : Int)) (n : Int) = if accS n g then some (.inr (valS n g, (n : Int), 0)) else iter (m_eponymref01_Next_L29 s (at_ : Int)) ((n + 1 : Nat) : Int) := fun n hn h => by
    rw [iter_step, l29_eq s hs at_ n g hg hn (by omega)]
    split
    · split at * <;> simp_all
    · split at * <;> simp_all
    · split at * <;> simp_all
  have e29' : ∀ n : Nat, n ≤ 5 → R < n ∨ 4 < n → iter (m_eponymref01_Next_L29 s (at_ : Int)) (n : Int) = some (.inl ()) := fun n hn h => iter_done (l29_end s hs at_ n hn (by omega) (by omega))
  have e7 : ∀ n : Nat, R < n → n ≤ 4 → iter (m_eponymref01_Next_L7 s (at_ : Int)) (n : Int) = if endS n R g then some (.inr (0, 0, 2)) else iter (m_eponymref01_Next_L7 s (at_ : Int)) ((n + 1 : Nat) : Int) := fun n hn h => by
    rw [iter_step, l7_eq s hs at_ n R g hg hR hsz hn h]
    split
    · split at * <;> simp_all
    · split at * <;> simp_all
    · split at * <;> simp_all
  have e7' : ∀ n : Nat, 4 < n → n ≤ 200000 → iter (m_eponymref01_Next_L7 s (at_ : Int)) (n : Int) = some (.inl ()) := fun n hn h => iter_done (by
    unfold m_eponymref01_Next_L7
    rw [decide_eq_false (by omega)]; rfl)
  have k2 : m_eponymref01_Next_K2 s (at_ : Int) () = Option.bind (iter (m_eponymref01_Next_L7 s (at_ : Int)) ((R + 1 : Nat) : Int) : Option (Sum Unit (Int × Int × Int))) fun z => match z with | .inl s3 => some (0, 0, 1) | .inr v26 => some (v26.1, v26.2.1, v26.2.2) := by
    unfold m_eponymref01_Next_K2
    rw [if_pos ⟨by omega, by omega, by omega⟩, Int.toNat_natCast, hes, up (by omega)]
    rfl
  unfold m_eponymref01_Next chainR
  rw [show (1 : Int) = ((1 : Nat) : Int) from rfl, e29 1 (.inl rfl) hR]
  by_cases a1 : accS 1 g
  · rw [if_pos a1, if_pos a1]; rfl
  rw [if_neg a1, if_neg a1]
  by_cases r2 : R < 2
  · have : R = 1 := by omega
    subst this
    rw [if_pos r2, e29' 2 (by omega) (by omega), bind_some']
    simp only
    rw [k2, e7 2 (by omega) (by omega)]
    by_cases q2 : endS 2 1 g
    · rw [if_pos q2, if_pos q2]; rfl
    rw [if_neg q2, if_neg q2, e7 3 (by omega) (by omega)]
    by_cases q3 : endS 3 1 g
    · rw [if_pos q3, if_pos q3]; rfl
    rw [if_neg q3, if_neg q3, e7 4 (by omega) (by omega)]
    by_cases q4 : endS 4 1 g
    · rw [if_pos q4, if_pos q4]; rfl
    rw [if_neg q4, if_neg q4, e7' 5 (by omega) (by omega)]; rfl
  rw [if_neg r2, e29 2 (by omega) (by omega)]
  by_cases a2 : accS 2 g
  · rw [if_pos a2, if_pos a2]; rfl
  rw [if_neg a2, if_neg a2]
  by_cases r3 : R < 3
  · have : R = 2 := by omega
    subst this
    rw [if_pos r3, e29' 3 (by omega) (by omega), bind_some']
    simp only
    rw [k2, e7 3 (by omega) (by omega)]
    by_cases q3 : endS 3 2 g
    · rw [if_pos q3, if_pos q3]; rfl
    rw [if_neg q3, if_neg q3, e7 4 (by omega) (by omega)]
    by_cases q4 : endS 4 2 g
    · rw [if_pos q4, if_pos q4]; rfl
    rw [if_neg q4, if_neg q4, e7' 5 (by omega) (by omega)]; rfl
  rw [if_neg r3, e29 3 (by omega) (by omega)]
  by_cases a3 : accS 3 g
  · rw [if_pos a3, if_pos a3]; rfl
  rw [if_neg a3, if_neg a3]
  by_cases r4 : R < 4
  · have : R = 3 := by omega
    subst this
    rw [if_pos r4, e29' 4 (by omega) (by omega), bind_some']
    simp only
    rw [k2, e7 4 (by omega) (by omega)]
    by_cases q4 : endS 4 3 g
    · rw [if_pos q4, if_pos q4]; rfl
    rw [if_neg q4, if_neg q4, e7' 5 (by omega) (by omega)]; rfl
  rw [if_neg r4, e29 4 (by omega) (by omega)]
  by_cases a4 : accS 4 g
  · rw [if_pos a4, if_pos a4]; rfl
  rw [if_neg a4, if_neg a4, e29' 5 (by omega) (by omega), bind_some']
  simp only
  rw [k2, e7' (R + 1) (by omega) (by omega)]; rfl
theorem chain_next (R : Nat) (g : Nat → Int) (hR : 1 ≤ R) (hb : ∀ i, 0 ≤ g i ∧ g i ≤ 255) : chainR R g = nextS R g := by
  have b0 := hb 0
  have b1 := hb 1
  have b2 := hb 2
  have b3 := hb 3
  have A1 : accS 1 g ↔ g 0 < 128 := Iff.rfl
  have A2 : accS 2 g ↔ 194 ≤ g 0 ∧ g 0 < 224 ∧ 128 ≤ g 1 ∧ g 1 ≤ 191 := Iff.rfl
  have A3 : accS 3 g ↔ 224 ≤ g 0 ∧ g 0 < 240 ∧ (128 ≤ g 1 ∧ g 1 ≤ 191) ∧ (128 ≤ g 2 ∧ g 2 ≤ 191) ∧ (g 0 = 224 → 160 ≤ g 1) ∧ (g 0 = 237 → g 1 ≤ 159) := Iff.rfl
  have A4 : accS 4 g ↔ 240 ≤ g 0 ∧ g 0 ≤ 244 ∧ (128 ≤ g 1 ∧ g 1 ≤ 191) ∧ (128 ≤ g 2 ∧ g 2 ≤ 191) ∧ (128 ≤ g 3 ∧ g 3 ≤ 191) ∧ (g 0 = 240 → 144 ≤ g 1) ∧ (g 0 = 244 → g 1 ≤ 143) := Iff.rfl
  have E2 : ∀ R, endS 2 R g ↔ 194 ≤ g 0 ∧ g 0 < 224 := fun _ => Iff.rfl
  have E3 : ∀ R, endS 3 R g ↔ 224 ≤ g 0 ∧ g 0 < 240 ∧ (2 ≤ R → 128 ≤ g 1 ∧ g 1 ≤ 191 ∧ (g 0 = 224 → 160 ≤ g 1) ∧ (g 0 = 237 → g 1 ≤ 159)) := fun _ => Iff.rfl
  have E4 : ∀ R, endS 4 R g ↔ 240 ≤ g 0 ∧ g 0 ≤ 244 ∧ (2 ≤ R → 128 ≤ g 1 ∧ g 1 ≤ 191 ∧ (g 0 = 240 → 144 ≤ g 1) ∧ (g 0 = 244 → g 1 ≤ 143)) ∧ (3 ≤ R → 128 ≤ g 2 ∧ g 2 ≤ 191) := fun _ => Iff.rfl
  unfold chainR nextS
  by_cases h0 : g 0 < 128
  · rw [if_pos (A1.2 h0), if_pos h0, valS1, if_pos h0]
  rw [if_neg (fun h => h0 (A1.1 h)), if_neg h0]
  by_cases h1 : g 0 < 194 ∨ 245 ≤ g 0
  · rw [if_pos h1]
    have n2 : ¬ accS 2 g := fun h => by have := A2.1 h; omega
    have n3 : ¬ accS 3 g := fun h => by have := A3.1 h; omega
    have n4 : ¬ accS 4 g := fun h => by have := A4.1 h; omega
    have m2 : ¬ endS 2 R g := fun h => by have := (E2 R).1 h; omega
    have m3 : ¬ endS 3 R g := fun h => by have := (E3 R).1 h; omega
    have m4 : ¬ endS 4 R g := fun h => by have := (E4 R).1 h; omega
    simp only [if_neg n2, if_neg n3, if_neg n4, if_neg m2, if_neg m3, if_neg m4, ite_self]
  rw [if_neg h1]
  by_cases r1 : R ≤ 1
  · rw [if_pos r1, if_pos (by omega)]
    by_cases q2 : g 0 < 224
    · rw [if_pos ((E2 R).2 (by omega))]
    by_cases q3 : g 0 < 240
    · rw [if_neg (fun h => by have := (E2 R).1 h; omega), if_pos ((E3 R).2 ⟨by omega, q3, fun h => by omega⟩)]
    · rw [if_neg (fun h => by have := (E2 R).1 h; omega), if_neg (fun h => by have := (E3 R).1 h; omega), if_pos ((E4 R).2 ⟨by omega, by omega, fun h => by omega, fun h => by omega⟩)]
  rw [if_neg r1, if_neg (show ¬ R < 2 by omega)]
  by_cases k1 : (g 1 < (if g 0 = 224 then 160 else if g 0 = 240 then 144 else 128)) ∨ (if g 0 = 237 then 159 else if g 0 = 244 then 143 else 191) < g 1
  · rw [if_pos k1]
    have n2 : ¬ accS 2 g := fun h => by have := A2.1 h; omega
    have n3 : ¬ accS 3 g := fun h => by have := A3.1 h; omega
    have n4 : ¬ accS 4 g := fun h => by have := A4.1 h; omega
    have m3 : ¬ endS 3 R g := fun h => by have := (E3 R).1 h; omega
    have m4 : ¬ endS 4 R g := fun h => by have := (E4 R).1 h; omega
    simp only [if_neg n2, if_neg n3, if_neg n4, if_neg m3, if_neg m4, ite_self]
  rw [if_neg k1]
  by_cases q2 : g 0 < 224
  · rw [if_pos q2, if_pos (A2.2 (by omega)), valS2, if_pos (by omega)]
  rw [if_neg q2, if_neg (fun h => by have := A2.1 h; omega)]
  by_cases r2 : R ≤ 2
  · rw [if_pos r2, if_pos (by omega)]
    by_cases q3 : g 0 < 240
    · rw [if_pos ((E3 R).2 (by omega))]
    · rw [if_neg (fun h => by have := (E3 R).1 h; omega), if_pos ((E4 R).2 (by omega))]
  rw [if_neg r2, if_neg (show ¬ R < 3 by omega)]
  by_cases k2 : g 2 < 128 ∨ 191 < g 2
  · rw [if_pos k2]
    have n3 : ¬ accS 3 g := fun h => by have := A3.1 h; omega
    have n4 : ¬ accS 4 g := fun h => by have := A4.1 h; omega
    have m4 : ¬ endS 4 R g := fun h => by have := (E4 R).1 h; omega
    simp only [if_neg n3, if_neg n4, if_neg m4, ite_self]
  rw [if_neg k2]
  by_cases q3 : g 0 < 240
  · rw [if_pos q3, if_pos (A3.2 (by omega)), valS3, if_pos (by omega)]
  rw [if_neg q3, if_neg (fun h => by have := A3.1 h; omega)]
  by_cases r3 : R ≤ 3
  · rw [if_pos r3, if_pos (by omega), if_pos ((E4 R).2 (by omega))]
  rw [if_neg r3, if_neg (show ¬ R < 4 by omega)]
  by_cases k3 : g 3 < 128 ∨ 191 < g 3
  · rw [if_pos k3, if_neg (fun h => by have := A4.1 h; omega)]
  · rw [if_neg k3, if_pos (A4.2 (by omega)), valS4, if_pos (by omega)]
/-- THE REFERENCE: the rune at a place. -/
theorem refNext_eq (s : ByteArray) (hs : s.size ≤ 100000) (at_ : Nat) (ha : at_ < s.size) : m_eponymref01_Next s (at_ : Int) = some (nextS (s.size - at_) fun i => bt s ((at_ + i : Nat) : Int)) := by
  rw [next_chain s hs at_ (s.size - at_) (fun i => bt s ((at_ + i : Nat) : Int)) (fun _ => rfl) (by omega) (by omega), chain_next _ _ (by omega) fun i => ⟨bt_lo _ _, bt_hi _ _⟩]
theorem iand8 {b : Int} (h0 : 0 ≤ b) (h1 : b ≤ 255) (k : Nat) (hk : k ≤ 8) : iand .u8 b (((2 ^ k - 1 : Nat) : Nat) : Int) = b % 2 ^ k := by
  obtain ⟨n, rfl⟩ : ∃ n : Nat, b = n := ⟨b.toNat, by omega⟩
  show IntKind.wrap .u8 (((BitVec.ofInt 8 (n : Int) &&& BitVec.ofInt 8 ((2 ^ k - 1 : Nat) : Int)).toNat : Nat) : Int) = _
  have hp : 2 ^ k ≤ 2 ^ 8 := Nat.pow_le_pow_right (by omega) hk
  have hp0 : 0 < 2 ^ k := Nat.pow_pos (by omega)
  rw [BitVec.ofInt_natCast, BitVec.ofInt_natCast, BitVec.toNat_and, BitVec.toNat_ofNat, BitVec.toNat_ofNat, Nat.mod_eq_of_lt (by omega), Nat.mod_eq_of_lt (by omega), Nat.and_two_pow_sub_one_eq_mod]
  have hm : n % 2 ^ k < 2 ^ k := Nat.mod_lt _ hp0
  rw [wu8 (by omega) (by omega)]
  simp
theorem ior32 {x y : Int} (h0 : 0 ≤ x) (h1 : x ≤ 30000000) (y0 : 0 ≤ y) (y1 : y < 64) : ior .i32 (x * 64) y = x * 64 + y := by
  obtain ⟨n, rfl⟩ : ∃ n : Nat, x = n := ⟨x.toNat, by omega⟩
  obtain ⟨m, rfl⟩ : ∃ n : Nat, y = n := ⟨y.toNat, by omega⟩
  have e : (n : Int) * 64 = ((2 ^ 6 * n : Nat) : Int) := by omega
  rw [e]
  show IntKind.wrap .i32 (((BitVec.ofInt 32 ((2 ^ 6 * n : Nat) : Int) ||| BitVec.ofInt 32 (m : Int)).toNat : Nat) : Int) = _
  rw [BitVec.ofInt_natCast, BitVec.ofInt_natCast, BitVec.toNat_or, BitVec.toNat_ofNat, BitVec.toNat_ofNat, Nat.mod_eq_of_lt (by omega), Nat.mod_eq_of_lt (by omega), ← Nat.two_pow_add_eq_or_of_lt (by omega), w32 (by omega) (by omega)]
  omega
/-- A wrong byte, or the end, at a place, as an error. -/
def utfEr (c : Int) (at_ : Int) : Er := if c = 0 then .nil else .box 62 at_ (.sent (if c = 1 then 5 else 9))
/-- What a rune's first byte tells: how many follow, its bits, the bounds of the next one. -/
def firstS (b : Int) : Int × Int × Int × Int :=
  if 245 ≤ b then (-1, 0, 128, 191)
  else if 240 ≤ b then (3, b - 240, (if b = 240 then 144 else 128), (if b = 244 then 143 else 191))
  else if 224 ≤ b then (2, b - 224, (if b = 224 then 160 else 128), (if b = 237 then 159 else 191))
  else if 194 ≤ b then (1, b - 192, 128, 191)
  else if 128 ≤ b then (-1, 0, 128, 191)
  else (0, b, 128, 191)
theorem first_eq (b : Int) (h0 : 0 ≤ b) (h1 : b ≤ 255) : m_utf_first b = some (firstS b) := by
  have f1 : Int.fdiv (63 : Int) (2 ^ (min (1 : Int).toNat (IntKind.bits .u8))) = ((2 ^ 5 - 1 : Nat) : Int) := by decide
  have f2 : Int.fdiv (63 : Int) (2 ^ (min (2 : Int).toNat (IntKind.bits .u8))) = ((2 ^ 4 - 1 : Nat) : Int) := by decide
  have f3 : Int.fdiv (63 : Int) (2 ^ (min (3 : Int).toNat (IntKind.bits .u8))) = ((2 ^ 3 - 1 : Nat) : Int) := by decide
  have c1 : IntKind.wrap .i64 ((0 : Int) + 1) = 1 := by decide
  have c2 : IntKind.wrap .i64 ((1 : Int) + 1) = 2 := by decide
  have c3 : IntKind.wrap .i64 ((2 : Int) + 1) = 3 := by decide
  unfold m_utf_first firstS
  rw [c1, c2, c3]
  by_cases a1 : b ≥ 245
  · rw [decide_eq_true a1, if_pos (show 245 ≤ b from a1)]; rfl
  rw [decide_eq_false a1, cond_false, if_neg (show ¬ 245 ≤ b from a1)]
  by_cases a2 : b ≥ 240
  · rw [decide_eq_true a2, if_pos (show 240 ≤ b from a2), cond_true, bind_some']
    simp only
    unfold m_utf_first_K2
    rw [f3, iand8 h0 h1 3 (by omega), w32 (by omega) (by omega), beq_false_of_ne (show b ≠ 224 by omega), cond_false, beq_false_of_ne (show b ≠ 237 by omega), cond_false, if_pos (by omega)]
    have e : b % 2 ^ 3 = b - 240 := by omega
    rw [e]
    by_cases q : b = 240
    · subst q; rfl
    rw [beq_false_of_ne q, cond_false, if_neg q]
    by_cases q' : b = 244
    · subst q'; rfl
    rw [beq_false_of_ne q', cond_false, if_neg q']; rfl
  rw [decide_eq_false a2, cond_false, if_neg (show ¬ 240 ≤ b from a2)]
  by_cases a3 : b ≥ 224
  · rw [decide_eq_true a3, if_pos (show 224 ≤ b from a3), cond_true, bind_some']
    simp only
    unfold m_utf_first_K2
    rw [f2, iand8 h0 h1 4 (by omega), w32 (by omega) (by omega), if_pos (by omega), beq_false_of_ne (show b ≠ 240 by omega), cond_false, beq_false_of_ne (show b ≠ 244 by omega), cond_false]
    have e : b % 2 ^ 4 = b - 224 := by omega
    rw [e]
    by_cases q : b = 224
    · subst q; rfl
    rw [beq_false_of_ne q, cond_false, if_neg q]
    by_cases q' : b = 237
    · subst q'; rfl
    rw [beq_false_of_ne q', cond_false, if_neg q']; rfl
  rw [decide_eq_false a3, cond_false, if_neg (show ¬ 224 ≤ b from a3)]
  by_cases a4 : b ≥ 194
  · rw [decide_eq_true a4, if_pos (show 194 ≤ b from a4), cond_true, bind_some']
    simp only
    unfold m_utf_first_K2
    rw [f1, iand8 h0 h1 5 (by omega), w32 (by omega) (by omega), if_pos (by omega), beq_false_of_ne (show b ≠ 240 by omega), cond_false, beq_false_of_ne (show b ≠ 244 by omega), cond_false, beq_false_of_ne (show b ≠ 224 by omega), cond_false, beq_false_of_ne (show b ≠ 237 by omega), cond_false]
    have e : b % 2 ^ 5 = b - 192 := by omega
    rw [e]; rfl
  rw [decide_eq_false a4, cond_false, if_neg (show ¬ 194 ≤ b from a4)]
  by_cases a5 : b ≥ 128
  · rw [decide_eq_true a5, if_pos (show 128 ≤ b from a5)]; rfl
  rw [decide_eq_false a5, cond_false, if_neg (show ¬ 128 ≤ b from a5), bind_some', w32 (by omega) (by omega)]
theorem fault_utf (at_ : Int) (e : Er) : m_utf_fault at_ e = some (.box 62 at_ e) := rfl
theorem lu_end (s : ByteArray) (at_ : Int) (y : Int × Int × Int × Int) (r lo hi i : Int) (h : y.1 < i) : iter (m_utf_Next_L10 s at_ y) (r, lo, hi, i) = some (.inl r) := by
  refine iter_done ?_
  unfold m_utf_Next_L10
  simp only
  rw [decide_eq_false (by omega)]; rfl
theorem lu_step (s : ByteArray) (hs : s.size ≤ 100000) (at_ i : Nat) (y : Int × Int × Int × Int) (r lo hi : Int) (ha : at_ < s.size) (h : (i : Int) ≤ y.1) (hi3 : i ≤ 3) (r0 : 0 ≤ r) (r1 : r ≤ 30000000) :
    iter (m_utf_Next_L10 s (at_ : Int) y) (r, lo, hi, (i : Int)) = if s.size - at_ ≤ i then some (.inr (0, 0, utfEr 2 at_)) else if bt s ((at_ + i : Nat) : Int) < lo ∨ hi < bt s ((at_ + i : Nat) : Int) then some (.inr (0, 0, utfEr 1 at_)) else iter (m_utf_Next_L10 s (at_ : Int) y) (r * 64 + bt s ((at_ + i : Nat) : Int) % 64, 128, 191, ((i + 1 : Nat) : Int)) := by
  have hw : IntKind.wrap .i64 ((at_ : Int) + (i : Int)) = ((at_ + i : Nat) : Int) := by rw [w64 (by omega) (by omega)]; omega
  have b0 := bt_lo s ((at_ + i : Nat) : Int)
  have b1 := bt_hi s ((at_ + i : Nat) : Int)
  have i63 : (63 : Int) = ((2 ^ 6 - 1 : Nat) : Int) := rfl
  by_cases hR : s.size - at_ ≤ i
  · rw [if_pos hR]
    refine iter_done ?_
    unfold m_utf_Next_L10
    simp only
    rw [decide_eq_true h, cond_true, hw, decide_eq_true (by omega), cond_true, fault_utf]; rfl
  · rw [if_neg hR]
    have e : m_utf_Next_L10 s (at_ : Int) y (r, lo, hi, (i : Int)) = m_utf_Next_K14 s (at_ : Int) (r, lo, hi, (i : Int)) (decide (bt s ((at_ + i : Nat) : Int) < lo ∨ hi < bt s ((at_ + i : Nat) : Int))) := by
      unfold m_utf_Next_L10
      simp only
      rw [decide_eq_true h, cond_true, hw, decide_eq_false (by omega), cond_false, if_pos ⟨by omega, by omega⟩]
      by_cases q : bt s ((at_ + i : Nat) : Int) < lo
      · rw [decide_eq_true q, cond_true, bind_some', decide_eq_true (Or.inl q)]
      · rw [decide_eq_false q, cond_false, bind_some']
        congr 1
        rw [decide_eq_decide]
        constructor
        · exact fun h => .inr h
        · exact fun h => h.resolve_left q
    by_cases q : bt s ((at_ + i : Nat) : Int) < lo ∨ hi < bt s ((at_ + i : Nat) : Int)
    · rw [if_pos q]
      rw [decide_eq_true q] at e
      exact iter_done (e.trans rfl)
    · rw [if_neg q]
      rw [decide_eq_false q] at e
      refine (iter_next (e.trans ?_))
      unfold m_utf_Next_K14
      simp only
      rw [cond_false, hw, w32 (x := r * 64) (by omega) (by omega), i63, iand8 b0 b1 6 (by omega)]
      have hm : bt s ((at_ + i : Nat) : Int) % 2 ^ 6 = bt s ((at_ + i : Nat) : Int) % 64 := rfl
      rw [hm, w32 (x := bt s ((at_ + i : Nat) : Int) % 64) (by omega) (by omega), ior32 r0 r1 (by omega) (by omega), up (by omega)]
/-- THE PROGRAM: the rune at a place. -/
theorem utfNext_eq (s : ByteArray) (hs : s.size ≤ 100000) (at_ : Nat) (ha : at_ < s.size) (q : Int × Int × Int) (hq : nextS (s.size - at_) (fun i => bt s ((at_ + i : Nat) : Int)) = q) : m_utf_Next s (at_ : Int) = some (q.1, q.2.1, utfEr q.2.2 at_) := by
  have b0 := bt_lo s ((at_ + 0 : Nat) : Int)
  have b1 := bt_hi s ((at_ + 0 : Nat) : Int)
  have d1 := bt_lo s ((at_ + 1 : Nat) : Int)
  have d2 := bt_lo s ((at_ + 1 + 1 : Nat) : Int)
  have d3 := bt_lo s ((at_ + 1 + 1 + 1 : Nat) : Int)
  have hb : bt s (at_ : Int) = bt s ((at_ + 0 : Nat) : Int) := rfl
  subst hq
  obtain ⟨F, hF⟩ : ∃ F : Int × Int × Int → Option (Int × Int × Er), ∀ q, F q = some (q.1, q.2.1, utfEr q.2.2 at_) := ⟨_, fun _ => rfl⟩
  have FI : ∀ (c : Prop) [Decidable c] (a b : Int × Int × Int), F (if c then a else b) = if c then F a else F b := fun c _ a b => by
    by_cases h : c
    · rw [if_pos h, if_pos h]
    · rw [if_neg h, if_neg h]
  rw [← hF]
  unfold m_utf_Next
  rw [decide_eq_false (show ¬ (at_ : Int) < 0 by omega), cond_false, decide_eq_false (by omega), bind_some']
  unfold m_utf_Next_K2
  rw [cond_false, if_pos ⟨by omega, by omega⟩, hb, first_eq _ b0 b1, bind_some']
  have one : (1 : Int) = ((1 : Nat) : Int) := rfl
  have i2 : bt s ((at_ + 2 : Nat) : Int) = bt s ((at_ + 1 + 1 : Nat) : Int) := rfl
  have i3 : bt s ((at_ + 3 : Nat) : Int) = bt s ((at_ + 1 + 1 + 1 : Nat) : Int) := rfl
  unfold nextS
  simp only [i2, i3, FI, hF]
  obtain ⟨g0, hg0⟩ : ∃ g0, bt s ((at_ + 0 : Nat) : Int) = g0 := ⟨_, rfl⟩
  obtain ⟨R, hR⟩ : ∃ R, s.size - at_ = R := ⟨_, rfl⟩
  simp only [hg0, hR] at b0 b1 ⊢
  by_cases a1 : g0 < 128
  · have ef : firstS g0 = (0, g0, 128, 191) := by
      unfold firstS
      rw [if_neg (by omega), if_neg (by omega), if_neg (by omega), if_neg (by omega), if_neg (by omega)]
    rw [if_pos a1, ef]
    simp only
    rw [lu_end _ _ _ _ _ _ _ (by show (0 : Int) < 1; omega), bind_some']
    rfl
  rw [if_neg a1]
  by_cases a2 : g0 < 194 ∨ 245 ≤ g0
  · have ef : firstS g0 = (-1, 0, 128, 191) := by
      unfold firstS
      by_cases q : 245 ≤ g0
      · rw [if_pos q]
      · rw [if_neg q, if_neg (by omega), if_neg (by omega), if_neg (by omega), if_pos (by omega)]
    rw [if_pos a2, ef]
    rfl
  rw [if_neg a2]
  have key : ∀ (c : Nat) (r lo hi : Int), 1 ≤ c → c ≤ 3 → firstS g0 = ((c : Int), r, lo, hi) → 0 ≤ r → r ≤ 100 →
      (bif decide ((firstS g0).1 < 0) then Option.bind (m_utf_fault (at_ : Int) (Er.sent 5)) fun y5 => some (0, 0, y5)
        else Option.bind (iter (m_utf_Next_L10 s (at_ : Int) (firstS g0)) ((firstS g0).2.1, (firstS g0).2.2.1, (firstS g0).2.2.2, 1) : Option (Sum Int (Int × Int × Er))) fun z =>
          match z with
          | .inl s6 => some (s6, IntKind.wrap .i64 ((firstS g0).1 + 1), Er.nil)
          | .inr v18 => some (v18.1, v18.2.1, v18.2.2)) =
      if R ≤ 1 then some (0, 0, utfEr 2 at_) else if bt s ((at_ + 1 : Nat) : Int) < lo ∨ hi < bt s ((at_ + 1 : Nat) : Int) then some (0, 0, utfEr 1 at_)
      else if c = 1 then some (r * 64 + bt s ((at_ + 1 : Nat) : Int) % 64, 2, .nil)
      else if R ≤ 2 then some (0, 0, utfEr 2 at_) else if bt s ((at_ + 1 + 1 : Nat) : Int) < 128 ∨ 191 < bt s ((at_ + 1 + 1 : Nat) : Int) then some (0, 0, utfEr 1 at_)
      else if c = 2 then some ((r * 64 + bt s ((at_ + 1 : Nat) : Int) % 64) * 64 + bt s ((at_ + 1 + 1 : Nat) : Int) % 64, 3, .nil)
      else if R ≤ 3 then some (0, 0, utfEr 2 at_) else if bt s ((at_ + 1 + 1 + 1 : Nat) : Int) < 128 ∨ 191 < bt s ((at_ + 1 + 1 + 1 : Nat) : Int) then some (0, 0, utfEr 1 at_)
      else some (((r * 64 + bt s ((at_ + 1 : Nat) : Int) % 64) * 64 + bt s ((at_ + 1 + 1 : Nat) : Int) % 64) * 64 + bt s ((at_ + 1 + 1 + 1 : Nat) : Int) % 64, 4, .nil) := by
    intro c r lo hi c1 c3 hf r0 r1
    rw [hf]
    simp only
    have w : IntKind.wrap .i64 ((c : Int) + 1) = ((c + 1 : Nat) : Int) := up (by omega)
    rw [decide_eq_false (by omega), cond_false, w, one, lu_step s hs at_ 1 _ r lo hi ha (by show ((1 : Nat) : Int) ≤ (c : Int); omega) (by omega) r0 (by omega), hR]
    by_cases q1 : R ≤ 1
    · rw [if_pos q1, if_pos q1]; rfl
    rw [if_neg q1, if_neg q1]
    by_cases k1 : bt s ((at_ + 1 : Nat) : Int) < lo ∨ hi < bt s ((at_ + 1 : Nat) : Int)
    · rw [if_pos k1, if_pos k1]; rfl
    rw [if_neg k1, if_neg k1]
    by_cases e1 : c = 1
    · subst e1
      rw [if_pos rfl, lu_end _ _ _ _ _ _ _ (by show ((1 : Nat) : Int) < ((1 + 1 : Nat) : Int); omega)]; rfl
    rw [if_neg e1, lu_step s hs at_ (1 + 1) _ _ 128 191 ha (by show ((1 + 1 : Nat) : Int) ≤ (c : Int); omega) (by omega) (by omega) (by omega), hR]
    by_cases q2 : R ≤ 2
    · rw [if_pos q2, if_pos q2]; rfl
    rw [if_neg q2, if_neg (show ¬ R ≤ 1 + 1 from q2)]
    have i2' : bt s ((at_ + (1 + 1) : Nat) : Int) = bt s ((at_ + 1 + 1 : Nat) : Int) := rfl
    rw [i2']
    by_cases k2 : bt s ((at_ + 1 + 1 : Nat) : Int) < 128 ∨ 191 < bt s ((at_ + 1 + 1 : Nat) : Int)
    · rw [if_pos k2, if_pos k2]; rfl
    rw [if_neg k2, if_neg k2]
    by_cases e2 : c = 2
    · subst e2
      rw [if_pos rfl, lu_end _ _ _ _ _ _ _ (by show ((2 : Nat) : Int) < ((1 + 1 + 1 : Nat) : Int); omega)]; rfl
    rw [if_neg e2, lu_step s hs at_ (1 + 1 + 1) _ _ 128 191 ha (by show ((1 + 1 + 1 : Nat) : Int) ≤ (c : Int); omega) (by omega) (by omega) (by omega), hR]
    by_cases q3 : R ≤ 3
    · rw [if_pos q3, if_pos q3]; rfl
    rw [if_neg q3, if_neg (show ¬ R ≤ 1 + 1 + 1 from q3)]
    have i3' : bt s ((at_ + (1 + 1 + 1) : Nat) : Int) = bt s ((at_ + 1 + 1 + 1 : Nat) : Int) := rfl
    rw [i3']
    by_cases k3 : bt s ((at_ + 1 + 1 + 1 : Nat) : Int) < 128 ∨ 191 < bt s ((at_ + 1 + 1 + 1 : Nat) : Int)
    · rw [if_pos k3, if_pos k3]; rfl
    rw [if_neg k3, if_neg k3]
    have e3 : c = 3 := by omega
    subst e3
    rw [lu_end _ _ _ _ _ _ _ (by show ((3 : Nat) : Int) < ((1 + 1 + 1 + 1 : Nat) : Int); omega)]; rfl
  by_cases a3 : g0 < 224
  · have ef : firstS g0 = (((1 : Nat) : Int), g0 - 192, 128, 191) := by
      unfold firstS
      rw [if_neg (by omega), if_neg (by omega), if_neg (by omega), if_pos (by omega)]; rfl
    refine (key 1 _ _ _ (by omega) (by omega) ef (by omega) (by omega)).trans ?_
    simp only [if_pos a3, if_neg (show ¬ g0 = 224 by omega), if_neg (show ¬ g0 = 240 by omega), if_neg (show ¬ g0 = 237 by omega), if_neg (show ¬ g0 = 244 by omega), if_true]
    split
    · rfl
    · split
      · rfl
      · refine congrArg some (Prod.ext ?_ rfl)
        show _ = (g0 - 192) * 64 + bt s ((at_ + 1 : Nat) : Int) - 128
        omega
  by_cases a4 : g0 < 240
  · have ef : firstS g0 = (((2 : Nat) : Int), g0 - 224, (if g0 = 224 then 160 else 128), (if g0 = 237 then 159 else 191)) := by
      unfold firstS
      rw [if_neg (by omega), if_neg (by omega), if_pos (by omega)]; rfl
    refine (key 2 _ _ _ (by omega) (by omega) ef (by omega) (by omega)).trans ?_
    simp only [if_neg a3, if_pos a4, if_neg (show ¬ g0 = 240 by omega), if_neg (show ¬ g0 = 244 by omega), if_true, if_neg (show ¬ (2 : Nat) = 1 by omega)]
    by_cases q1 : R ≤ 1
    · rw [if_pos q1, if_pos q1]
    rw [if_neg q1, if_neg q1]
    by_cases k1 : bt s ((at_ + 1 : Nat) : Int) < (if g0 = 224 then 160 else 128) ∨ (if g0 = 237 then 159 else 191) < bt s ((at_ + 1 : Nat) : Int)
    · rw [if_pos k1, if_pos k1]
    rw [if_neg k1, if_neg k1]
    by_cases q2 : R ≤ 2
    · rw [if_pos q2, if_pos q2]
    rw [if_neg q2, if_neg q2]
    by_cases k2 : bt s ((at_ + 1 + 1 : Nat) : Int) < 128 ∨ 191 < bt s ((at_ + 1 + 1 : Nat) : Int)
    · rw [if_pos k2, if_pos k2]
    rw [if_neg k2, if_neg k2]
    refine congrArg some (Prod.ext ?_ rfl)
    show _ = ((g0 - 224) * 64 + bt s ((at_ + 1 : Nat) : Int) - 128) * 64 + bt s ((at_ + 1 + 1 : Nat) : Int) - 128
    omega
  · have ef : firstS g0 = (((3 : Nat) : Int), g0 - 240, (if g0 = 240 then 144 else 128), (if g0 = 244 then 143 else 191)) := by
      unfold firstS
      rw [if_neg (by omega), if_pos (by omega)]; rfl
    refine (key 3 _ _ _ (by omega) (by omega) ef (by omega) (by omega)).trans ?_
    simp only [if_neg a3, if_neg a4, if_neg (show ¬ g0 = 224 by omega), if_neg (show ¬ g0 = 237 by omega), if_neg (show ¬ (3 : Nat) = 1 by omega), if_neg (show ¬ (3 : Nat) = 2 by omega)]
    by_cases q1 : R ≤ 1
    · rw [if_pos q1, if_pos q1]
    rw [if_neg q1, if_neg q1]
    by_cases k1 : bt s ((at_ + 1 : Nat) : Int) < (if g0 = 240 then 144 else 128) ∨ (if g0 = 244 then 143 else 191) < bt s ((at_ + 1 : Nat) : Int)
    · rw [if_pos k1, if_pos k1]
    rw [if_neg k1, if_neg k1]
    by_cases q2 : R ≤ 2
    · rw [if_pos q2, if_pos q2]
    rw [if_neg q2, if_neg q2]
    by_cases k2 : bt s ((at_ + 1 + 1 : Nat) : Int) < 128 ∨ 191 < bt s ((at_ + 1 + 1 : Nat) : Int)
    · rw [if_pos k2, if_pos k2]
    rw [if_neg k2, if_neg k2]
    by_cases q3 : R ≤ 3
    · rw [if_pos q3, if_pos q3]
    rw [if_neg q3, if_neg q3]
    by_cases k3 : bt s ((at_ + 1 + 1 + 1 : Nat) : Int) < 128 ∨ 191 < bt s ((at_ + 1 + 1 + 1 : Nat) : Int)
    · rw [if_pos k3, if_pos k3]
    rw [if_neg k3, if_neg k3]
    refine congrArg some (Prod.ext ?_ rfl)
    show _ = (((g0 - 240) * 64 + bt s ((at_ + 1 : Nat) : Int) - 128) * 64 + bt s ((at_ + 1 + 1 : Nat) : Int) - 128) * 64 + bt s ((at_ + 1 + 1 + 1 : Nat) : Int) - 128
    omega
theorem next_props (R : Nat) (g : Nat → Int) (hR : 1 ≤ R) (hb : ∀ i, 0 ≤ g i ∧ g i ≤ 255) :
    ((nextS R g).2.2 = 0 ∧ rightS (nextS R g).1 = true ∧ 1 ≤ (nextS R g).2.1 ∧ (nextS R g).2.1 ≤ (R : Int) ∧ (nextS R g).2.1 ≤ 4) ∨ (nextS R g).2.2 = 1 ∨ (nextS R g).2.2 = 2 := by
  have b0 := hb 0
  have b1 := hb 1
  have b2 := hb 2
  have b3 := hb 3
  unfold nextS rightS
  by_cases h0 : g 0 < 128
  · rw [if_pos h0]; left; refine ⟨rfl, ?_, ?_, ?_, ?_⟩ <;> simp <;> omega
  rw [if_neg h0]
  by_cases h1 : g 0 < 194 ∨ 245 ≤ g 0
  · rw [if_pos h1]; right; left; rfl
  rw [if_neg h1]
  by_cases r1 : R ≤ 1
  · rw [if_pos r1]; right; right; rfl
  rw [if_neg r1]
  by_cases k1 : (g 1 < (if g 0 = 224 then 160 else if g 0 = 240 then 144 else 128)) ∨ (if g 0 = 237 then 159 else if g 0 = 244 then 143 else 191) < g 1
  · rw [if_pos k1]; right; left; rfl
  rw [if_neg k1]
  by_cases q2 : g 0 < 224
  · rw [if_pos q2]; left; refine ⟨rfl, ?_, ?_, ?_, ?_⟩ <;> simp <;> omega
  rw [if_neg q2]
  by_cases r2 : R ≤ 2
  · rw [if_pos r2]; right; right; rfl
  rw [if_neg r2]
  by_cases k2 : g 2 < 128 ∨ 191 < g 2
  · rw [if_pos k2]; right; left; rfl
  rw [if_neg k2]
  by_cases q3 : g 0 < 240
  · rw [if_pos q3]; left; refine ⟨rfl, ?_, ?_, ?_, ?_⟩ <;> simp <;> omega
  rw [if_neg q3]
  by_cases r3 : R ≤ 3
  · rw [if_pos r3]; right; right; rfl
  rw [if_neg r3]
  by_cases k3 : g 3 < 128 ∨ 191 < g 3
  · rw [if_pos k3]; right; left; rfl
  · rw [if_neg k3]; left; refine ⟨rfl, ?_, ?_, ?_, ?_⟩ <;> simp <;> omega
theorem utfEr_nil (c a : Int) : (utfEr c a).isNil = decide (c = 0) := by
  unfold utfEr
  by_cases h : c = 0
  · rw [if_pos h, decide_eq_true h]; rfl
  · rw [if_neg h, decide_eq_false h]; rfl
/-- BOTH DECODINGS. -/
theorem decode_both (s : ByteArray) (hs : s.size ≤ 100000) : ∃ y : List Int × Int × Int, m_eponymref01_Decode s = some y ∧ m_utf_Decode s = some (y.1, utfEr y.2.2 y.2.1) ∧ (y.2.2 = 0 ∨ y.2.2 = 1 ∨ y.2.2 = 2) ∧ y.1.length ≤ s.size ∧ ∀ x ∈ y.1, rightS x = true := by
  have key : ∀ (k at_ : Nat) (out : List Int), s.size - at_ ≤ k → at_ ≤ s.size → out.length ≤ at_ → (∀ x ∈ out, rightS x = true) →
      (∃ l, iter (m_eponymref01_Decode_L5 s) (out, (at_ : Int)) = some (.inl l) ∧ iter (m_utf_Decode_L5 s) (out, (at_ : Int)) = some (.inl l) ∧ l.length ≤ s.size ∧ ∀ x ∈ l, rightS x = true) ∨
      ∃ (a c : Int), iter (m_eponymref01_Decode_L5 s) (out, (at_ : Int)) = some (.inr ([], a, c)) ∧ iter (m_utf_Decode_L5 s) (out, (at_ : Int)) = some (.inr ([], utfEr c a)) ∧ (c = 1 ∨ c = 2) := by
    intro k
    induction k with
    | zero =>
      intro at_ out hk ha ho hr
      left
      refine ⟨out, iter_done ?_, iter_done ?_, by omega, hr⟩
      · unfold m_eponymref01_Decode_L5
        simp only
        rw [decide_eq_false (by omega)]; rfl
      · unfold m_utf_Decode_L5
        simp only
        rw [decide_eq_false (by omega)]; rfl
    | succ k ih =>
      intro at_ out hk ha ho hr
      by_cases hlt : at_ < s.size
      · obtain ⟨q, hq⟩ : ∃ q, nextS (s.size - at_) (fun i => bt s ((at_ + i : Nat) : Int)) = q := ⟨_, rfl⟩
        have e1 := refNext_eq s hs at_ hlt
        have e2 := utfNext_eq s hs at_ hlt q hq
        rw [hq] at e1
        have hp := next_props (s.size - at_) (fun i => bt s ((at_ + i : Nat) : Int)) (by omega) fun i => ⟨bt_lo _ _, bt_hi _ _⟩
        rw [hq] at hp
        rcases hp with ⟨h0, hright, n1, n2, n4⟩ | hc
        · obtain ⟨m, hm⟩ : ∃ m : Nat, q.2.1 = m := ⟨q.2.1.toNat, by omega⟩
          have s1 : m_eponymref01_Decode_L5 s (out, (at_ : Int)) = some (.next (out ++ [q.1], ((at_ + m : Nat) : Int))) := by
            unfold m_eponymref01_Decode_L5
            simp only
            rw [decide_eq_true (by omega), cond_true, e1, bind_some', h0, hm, show ((0 : Int) != 0) = false by decide, cond_false, if_pos (by omega), w64 (by omega) (by omega)]
            rfl
          have s2 : m_utf_Decode_L5 s (out, (at_ : Int)) = some (.next (out ++ [q.1], ((at_ + m : Nat) : Int))) := by
            unfold m_utf_Decode_L5
            simp only
            rw [decide_eq_true (by omega), cond_true, e2, bind_some']
            simp only
            rw [utfEr_nil, decide_eq_true h0, hm, if_pos (by omega), w64 (by omega) (by omega)]
            rfl
          rw [iter_next s1, iter_next s2]
          refine ih (at_ + m) (out ++ [q.1]) (by omega) (by omega) (by simp; omega) fun x hx => ?_
          rcases List.mem_append.1 hx with hx | hx
          · exact hr x hx
          · simp at hx; subst hx; exact hright
        · right
          have hne : q.2.2 ≠ 0 := by omega
          refine ⟨(at_ : Int), q.2.2, iter_done ?_, iter_done ?_, hc⟩
          · unfold m_eponymref01_Decode_L5
            simp only
            rw [decide_eq_true (by omega), cond_true, e1, bind_some', bne_iff_ne.2 hne]; rfl
          · unfold m_utf_Decode_L5
            simp only
            rw [decide_eq_true (by omega), cond_true, e2, bind_some']
            simp only
            rw [utfEr_nil, decide_eq_false hne]; rfl
      · left
        refine ⟨out, iter_done ?_, iter_done ?_, by omega, hr⟩
        · unfold m_eponymref01_Decode_L5
          simp only
          rw [decide_eq_false (by omega)]; rfl
        · unfold m_utf_Decode_L5
          simp only
          rw [decide_eq_false (by omega)]; rfl
  have z0 : (0 : Int) = ((0 : Nat) : Int) := rfl
  rcases key s.size 0 [] (by omega) (by omega) (by simp) (fun x hx => by cases hx) with ⟨l, h1, h2, h3, h4⟩ | ⟨a, c, h1, h2, h3⟩
  · refine ⟨(l, 0, 0), ?_, ?_, .inl rfl, h3, h4⟩
    · unfold m_eponymref01_Decode
      rw [z0, h1]; rfl
    · unfold m_utf_Decode
      rw [z0, h2]; rfl
  · refine ⟨([], a, c), ?_, ?_, .inr h3, by simp, fun x hx => by cases hx⟩
    · unfold m_eponymref01_Decode
      rw [z0, h1]; rfl
    · unfold m_utf_Decode
      rw [z0, h2]; rfl
end Go.Proofs.YtclhniadffljdaaDoor
