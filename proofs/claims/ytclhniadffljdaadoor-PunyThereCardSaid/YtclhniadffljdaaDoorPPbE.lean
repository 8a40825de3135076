/- Merged of texts of ours: PPnD, PPnF, PPnH, PPnI, PPbA, PPbB, PPbC, PPbD, PPbE. No condition. -/
import Derived.Test.YtclhniadffljdaaDoorPPnG
import Derived.Test.YtclhniadffljdaaDoorPPeC
import Derived.Test.YtclhniadffljdaaDoorPKsame
namespace Go.Proofs.YtclhniadffljdaaDoor
open Go Go.SE
set_option linter.unusedVariables false
set_option linter.unusedSimpArgs false
/-- A digit's number. -/
def valV (b : Int) : Int := if 97 ≤ b ∧ b ≤ 122 then b - 97 else if 65 ≤ b ∧ b ≤ 90 then b - 65 else if 48 ≤ b ∧ b ≤ 57 then b - 22 else -1
theorem value_eq {b : Int} (h : 0 ≤ b) (h' : b ≤ 255) : m_puny_value b = some (valV b) := by
  unfold m_puny_value m_puny_value_K2 m_puny_value_K4 m_puny_value_K6 valV
  by_cases h1 : 97 ≤ b
  · by_cases h2 : b ≤ 122
    · simp [h1, h2, w8 (x := b - 97) (by omega) (by omega), w64 (x := b - 97) (by omega) (by omega)]
    · have h3 : ¬ b ≤ 90 := by omega
      have h4 : ¬ b ≤ 57 := by omega
      have h5 : 65 ≤ b := by omega
      have h6 : 48 ≤ b := by omega
      simp [h1, h2, h3, h4, h5, h6]
  · by_cases h2 : 65 ≤ b
    · by_cases h3 : b ≤ 90
      · simp [h1, h2, h3, w8 (x := b - 65) (by omega) (by omega), w64 (x := b - 65) (by omega) (by omega)]
      · have h4 : ¬ b ≤ 57 := by omega
        have h6 : 48 ≤ b := by omega
        simp [h1, h2, h3, h4, h6]
    · by_cases h3 : 48 ≤ b
      · by_cases h4 : b ≤ 57
        · simp [h1, h2, h3, h4, w8 (x := b - 48) (by omega) (by omega), w64 (x := b - 48) (by omega) (by omega), w64 (x := b - 48 + 26) (by omega) (by omega)]
          omega
        · simp [h1, h2, h3, h4]
      · simp [h1, h2, h3]
theorem value_ref {b : Int} (h : 0 ≤ b) (h' : b ≤ 255) : m_eponymref06_value b = some (valV b) := by
  unfold m_eponymref06_value m_eponymref06_value_K2 m_eponymref06_value_K4 m_eponymref06_value_K6 valV
  rw [w64 (x := b) (by omega) (by omega), w64 (x := b - 97) (by omega) (by omega), w64 (x := b - 65) (by omega) (by omega), w64 (x := b - 22) (by omega) (by omega)]
  by_cases h1 : 97 ≤ b
  · by_cases h2 : b ≤ 122
    · simp [h1, h2]
    · have h3 : ¬ b ≤ 90 := by omega
      have h4 : ¬ b ≤ 57 := by omega
      have h5 : 65 ≤ b := by omega
      have h6 : 48 ≤ b := by omega
      simp [h1, h2, h3, h4, h5, h6]
  · by_cases h2 : 65 ≤ b
    · by_cases h3 : b ≤ 90
      · simp [h1, h2, h3]
      · have h4 : ¬ b ≤ 57 := by omega
        have h6 : 48 ≤ b := by omega
        simp [h1, h2, h3, h4, h6]
    · by_cases h3 : 48 ≤ b
      · by_cases h4 : b ≤ 57
        · simp [h1, h2, h3, h4]
        · simp [h1, h2, h3, h4]
      · simp [h1, h2, h3]
theorem valV_in (b : Int) : -1 ≤ valV b ∧ valV b ≤ 35 := by unfold valV; split <;> (try split) <;> (try split) <;> omega
theorem bt_in (s : ByteArray) (i : Int) : 0 ≤ bt s i ∧ bt s i ≤ 255 := by
  unfold bt
  have := (s.data.toList.getD i.toNat 0).toNat_lt
  omega
/-- The bound of a digit, by whatever bias. -/
def bw (b k : Int) : Int := wi (IntKind.wrap .i64 ((IntKind.wrap .i64 (36 * (IntKind.wrap .i64 (k + 1)))) - b)) 1 26
theorem bw_in (b k : Int) : 1 ≤ bw b k ∧ bw b k ≤ 26 := wi_in (by omega)
theorem bw_ref (b k : Int) : m_eponymref06_bound k b = some (bw b k) := by unfold m_eponymref06_bound; rw [within_ref _ _ _ (by omega)]; rfl
/-- What is behind a number, in the code: next's rest, and the loop. -/
noncomputable def contC (s : ByteArray) (out : List Int) (y1 : Int × Bool × ByteArray × Int × Int × Int × Int × Er) : Option (Sum (Int × Bool × ByteArray × Int × Int × Int × (List Int)) ((List Int) × Er)) :=
  Option.bind (
    bif (!y1.2.2.2.2.2.2.2.isNil) then
      some (y1.1, y1.2.1, y1.2.2.1, y1.2.2.2.1, y1.2.2.2.2.1, y1.2.2.2.2.2.1, out, y1.2.2.2.2.2.2.2)
    else
      Option.bind (m_puny_bias_adapt_own2 y1.1 y1.2.1 y1.2.2.1 y1.2.2.2.1 y1.2.2.2.2.1 y1.2.2.2.2.2.1 out y1.2.2.2.2.2.2.1 (IntKind.wrap .i64 (((out.length : Nat) : Int) + (1 : Int)))) fun y2 =>
      if (IntKind.wrap .i64 (((out.length : Nat) : Int) + (1 : Int))) ≠ 0 then
        if (IntKind.wrap .i64 (((out.length : Nat) : Int) + (1 : Int))) ≠ 0 then
          Option.bind (
            bif (decide ((IntKind.wrap .i64 (y2.2.2.2.2.1 + (IntKind.wrap .i64 (Int.tdiv (IntKind.wrap .i64 (y2.2.2.2.2.2 + y1.2.2.2.2.2.2.1)) (IntKind.wrap .i64 (((out.length : Nat) : Int) + (1 : Int))))))) > (1114111 : Int))) then
              some true
            else
              Option.bind (m_utf_Right (IntKind.wrap .i32 (IntKind.wrap .i64 (y2.2.2.2.2.1 + (IntKind.wrap .i64 (Int.tdiv (IntKind.wrap .i64 (y2.2.2.2.2.2 + y1.2.2.2.2.2.2.1)) (IntKind.wrap .i64 (((out.length : Nat) : Int) + (1 : Int))))))))) fun y7 =>
              some (!y7) : Option Bool) fun s3 =>
          m_puny_decoder_next_own_K4 out y1 y2 s3
        else none
      else none : Option (Int × Bool × ByteArray × Int × Int × Int × (List Int) × Er)) fun y12 =>
  bif (!y12.2.2.2.2.2.2.2.isNil) then some (.inr ([], y12.2.2.2.2.2.2.2)) else iter (m_puny_Decode_L10 s) (y12.1, y12.2.1, y12.2.2.1, y12.2.2.2.1, y12.2.2.2.2.1, y12.2.2.2.2.2.1, y12.2.2.2.2.2.2.1)
theorem iter_bindN {S X Y : Type} {body : S → Option (Stp S X)} {st : S} {m : Option Y} {g : Y → Stp S X} (h : body st = Option.bind m fun y => some (g y)) : iter body st = Option.bind m fun y => match g y with | .next s' => iter body s' | .done x => some x := by
  rw [iter_step, h]
  cases m with
  | none => rfl
  | some y => simp only [Option.bind]; cases g y <;> rfl
theorem group (s : ByteArray) (b : Int) (f : Bool) (at_ : Nat) (n i : Int) (out : List Int) (h : at_ < s.size) :
    iter (m_puny_Decode_L10 s) (b, f, s, (at_ : Int), n, i, out) = Option.bind (iter (m_puny_decoder_number_own_L3 out) (b, f, s, (at_ : Int), n, i, 0, 1, 0)) (contC s out) := by
  have hb : m_puny_Decode_L10 s (b, f, s, (at_ : Int), n, i, out) = Option.bind (m_puny_decoder_next_own b f s at_ n i out) fun y12 => some (bif (!y12.2.2.2.2.2.2.2.isNil) then .done (.inr ([], y12.2.2.2.2.2.2.2)) else .next (y12.1, y12.2.1, y12.2.2.1, y12.2.2.2.1, y12.2.2.2.2.1, y12.2.2.2.2.2.1, y12.2.2.2.2.2.2.1)) := by
    unfold m_puny_Decode_L10
    simp only
    rw [show decide ((at_ : Int) < ((s.size : Nat) : Int)) = true by simp; omega, cond_true]
    congr 1
    funext y12
    cases y12.2.2.2.2.2.2.2.isNil <;> rfl
  rw [iter_bindN hb]
  unfold m_puny_decoder_next_own m_puny_decoder_number_own
  cases hn : iter (m_puny_decoder_number_own_L3 out) (b, f, s, (at_ : Int), n, i, 0, 1, 0) with
  | none => rfl
  | some y1 =>
    simp only [Option.bind]
    unfold contC
    refine congrArg (Option.bind _) (funext fun y12 => ?_)
    cases y12.2.2.2.2.2.2.2.isNil <;> rfl
/-- The last hyphen, from below. -/
def lastH (s : ByteArray) : Nat → Int
  | 0 => -1
  | k + 1 => if bt s (k : Int) = 45 then (k : Int) else lastH s k
theorem lastH_in (s : ByteArray) : ∀ k, -1 ≤ lastH s k ∧ lastH s k < k
  | 0 => ⟨by simp [lastH], by simp [lastH]⟩
  | k + 1 => by
    unfold lastH
    split
    · omega
    · have := lastH_in s k; omega
theorem lastI_eq (s : ByteArray) (hs : s.size ≤ 1000) : m_strings_LastIndexByte s 45 = some (lastH s s.size) := by
  have key : ∀ k : Nat, k ≤ s.size → iter (m_internal_bytealg_LastIndexByteString_L5 s 45) ((k : Int) - 1) = some (if lastH s k = -1 then .inl () else .inr (lastH s k)) := by
    intro k
    induction k with
    | zero =>
      intro _
      rw [iter_done (x := .inl ()) (by
        unfold m_internal_bytealg_LastIndexByteString_L5
        rfl)]
      rfl
    | succ k ih =>
      intro hk
      rw [show (((k + 1 : Nat) : Int) - 1) = (k : Int) by omega]
      by_cases h : bt s (k : Int) = 45
      · rw [iter_done (x := .inr (k : Int)) (by
          unfold m_internal_bytealg_LastIndexByteString_L5
          rw [show decide ((k : Int) ≥ 0) = true by simp, cond_true, if_pos (by omega), show (bt s (k : Int) == 45) = true by simp [h], cond_true])]
        unfold lastH
        rw [if_pos h, if_neg (by omega)]
      · rw [iter_next (s' := (k : Int) - 1) (by
          unfold m_internal_bytealg_LastIndexByteString_L5
          rw [show decide ((k : Int) ≥ 0) = true by simp, cond_true, if_pos (by omega), show (bt s (k : Int) == 45) = false by simp [h], cond_false, w64 (by omega) (by omega)])]
        rw [ih (by omega)]
        have : lastH s (k + 1) = lastH s k := by rw [lastH, if_neg h]
        rw [this]
  unfold m_strings_LastIndexByte m_internal_bytealg_LastIndexByteString
  rw [w64 (by omega) (by omega), key s.size (Nat.le_refl _), bind_some']
  by_cases h : lastH s s.size = -1
  · rw [if_pos h, h]; rfl
  · rw [if_neg h]; rfl
/-- All bytes are plain. -/
def asc (s : ByteArray) (n : Nat) : Prop := ∀ j : Nat, j < n → bt s (j : Int) < 128
theorem bt_get (t : ByteArray) (i : Nat) : ((t.get! i).toNat : Int) = bt t (i : Int) := by
  unfold bt
  rw [Int.toNat_natCast, ByteArray.get!, Array.getElem!_eq_getD, Array.getD_eq_getD_getElem?, List.getD_eq_getElem?_getD, Array.getElem?_toList]
  rfl
theorem runes_asc (t : ByteArray) (h : asc t t.size) : ∀ (n i : Nat) (acc : Array Value), i + n = t.size → (Conv.runesFrom t n i acc).toList = acc.toList ++ (List.range n).map fun j => Value.int .i32 (bt t ((i + j : Nat) : Int))
  | 0, i, acc, _ => by simp [Conv.runesFrom]
  | n + 1, i, acc, hi => by
    have hlt : i < t.size := by omega
    have hb := h i hlt
    have hd : Utf8.decode t i = ((t.get! i).toNat, 1) := by
      have : (t.get! i).toNat < 128 := by have := bt_get t i; omega
      unfold Utf8.decode
      simp only [Nat.add_zero]
      rw [if_pos this]
    unfold Conv.runesFrom
    rw [if_pos hlt, hd]
    simp only
    rw [runes_asc t h n (i + 1) _ (by omega), Array.toList_push, List.append_assoc, List.range_succ_eq_map, List.map_cons, List.map_map]
    congr 1
    rw [List.singleton_append]
    congr 1
    · rw [Nat.add_zero, ← bt_get]; rfl
    · refine List.map_congr_left fun j hj => ?_
      simp only [Function.comp]
      rw [show i + 1 + j = i + (j + 1) by omega]
theorem runesL_asc (t : ByteArray) (h : asc t t.size) : runesL t = (List.range t.size).map fun j => bt t ((j : Nat) : Int) := by
  unfold runesL
  rw [runes_asc t h t.size 0 #[] (by omega)]
  simp
/-- Where the digits begin. -/
def fromH (s : ByteArray) : Nat → Int
  | 0 => 0
  | k + 1 => if bt s (k : Int) = 45 ∧ 0 < k then ((k + 1 : Nat) : Int) else fromH s k
theorem fromH_eq (s : ByteArray) : ∀ n, fromH s n = if lastH s n > 0 then lastH s n + 1 else 0
  | 0 => by simp [fromH, lastH]
  | k + 1 => by
    unfold fromH lastH
    by_cases h : bt s (k : Int) = 45
    · by_cases hk : 0 < k
      · rw [if_pos ⟨h, hk⟩, if_pos h, if_pos (by omega)]; omega
      · rw [if_neg (fun h => hk h.2), if_pos h, if_neg (by omega)]
        have : k = 0 := by omega
        subst this
        rfl
    · rw [if_neg (fun h' => h h'.1), if_neg h]
      exact fromH_eq s k
theorem check_ref (s : ByteArray) (hs : s.size ≤ 1000) : ∀ (m k : Nat), k + m = s.size → asc s k → (asc s s.size ∧ iter (m_eponymref06_Decode_L27 s) (fromH s k, (k : Int)) = some (.inl (fromH s s.size))) ∨
    ∃ j : Nat, j < s.size ∧ asc s j ∧ 128 ≤ bt s (j : Int) ∧ iter (m_eponymref06_Decode_L27 s) (fromH s k, (k : Int)) = some (.inr ([], (j : Int), 1))
  | 0, k, hk, ha => by
    have : k = s.size := by omega
    subst this
    refine .inl ⟨ha, iter_done ?_⟩
    unfold m_eponymref06_Decode_L27
    simp
  | m + 1, k, hk, ha => by
    have hlt : decide ((k : Int) < ((s.size : Nat) : Int)) = true := by simp; omega
    by_cases hb : bt s (k : Int) > 127
    · refine .inr ⟨k, by omega, ha, by omega, iter_done ?_⟩
      unfold m_eponymref06_Decode_L27
      simp only [hlt, cond_true]
      rw [if_pos (by omega), decide_eq_true hb, cond_true]
    · have hbf : decide (bt s (k : Int) > 127) = false := by simp; omega
      have hu : IntKind.wrap .i64 ((k : Int) + 1) = ((k + 1 : Nat) : Int) := up (by omega)
      have hstep : m_eponymref06_Decode_L27 s (fromH s k, (k : Int)) = some (.next (fromH s (k + 1), ((k + 1 : Nat) : Int))) := by
        unfold m_eponymref06_Decode_L27
        simp only [hlt, cond_true]
        rw [if_pos (by omega), hbf, cond_false, if_pos (by omega)]
        unfold m_eponymref06_Decode_K30
        rw [hu, fromH]
        by_cases h : bt s (k : Int) = 45
        · rw [show (bt s (k : Int) == 45) = true by simp [h], cond_true, bind_some']
          by_cases hk0 : 0 < k
          · rw [show decide ((k : Int) > 0) = true by simp; omega, cond_true, if_pos ⟨h, hk0⟩]
          · rw [show decide ((k : Int) > 0) = false by simp; omega, cond_false, if_neg (fun h => hk0 h.2)]
        · rw [show (bt s (k : Int) == 45) = false by simp [h], cond_false, bind_some', cond_false, if_neg (fun h' => h h'.1)]
      have ha' : asc s (k + 1) := fun j hj => by
        by_cases e : j = k
        · subst e; omega
        · exact ha j (by omega)
      rw [iter_next hstep]
      exact check_ref s hs m (k + 1) (by omega) ha'
theorem chk_step (s : ByteArray) (hs : s.size ≤ 1000) (k : Nat) (hk : k < s.size) : m_puny_Decode_L19 s (k : Int) = some (if 128 ≤ bt s (k : Int) then .done (.inr ([], .box 62 (k : Int) (.sent 5))) else .next ((k + 1 : Nat) : Int)) := by
  unfold m_puny_Decode_L19
  rw [show decide ((k : Int) < ((s.size : Nat) : Int)) = true by simp; omega, cond_true, if_pos (by omega)]
  by_cases h : 128 ≤ bt s (k : Int)
  · rw [show decide (bt s (k : Int) ≥ 128) = true by simp; omega, cond_true, if_pos h]; rfl
  · rw [show decide (bt s (k : Int) ≥ 128) = false by simp; omega, cond_false, if_neg h, up (by omega)]
theorem chk_ok (s : ByteArray) (hs : s.size ≤ 1000) (ha : asc s s.size) : ∀ (m k : Nat), k + m = s.size → iter (m_puny_Decode_L19 s) (k : Int) = some (.inl ())
  | 0, k, hk => by
    have : k = s.size := by omega
    subst this
    refine iter_done ?_
    unfold m_puny_Decode_L19
    simp
  | m + 1, k, hk => by
    have h := chk_step s hs k (by omega)
    rw [if_neg (by have := ha k (by omega); omega)] at h
    rw [iter_next h]
    exact chk_ok s hs ha m (k + 1) (by omega)
theorem chk_bad (s : ByteArray) (hs : s.size ≤ 1000) (j : Nat) (hj : j < s.size) (ha : asc s j) (hb : 128 ≤ bt s (j : Int)) : ∀ (m k : Nat), k + m = j → iter (m_puny_Decode_L19 s) (k : Int) = some (.inr ([], .box 62 (j : Int) (.sent 5)))
  | 0, k, hk => by
    have : k = j := by omega
    subst this
    have h := chk_step s hs k hj
    rw [if_pos hb] at h
    exact iter_done h
  | m + 1, k, hk => by
    have h := chk_step s hs k (by omega)
    rw [if_neg (by have := ha k (by omega); omega)] at h
    rw [iter_next h]
    exact chk_bad s hs j hj ha hb m (k + 1) (by omega)
theorem pre_ref (s : ByteArray) (hs : s.size ≤ 1000) (y : Nat) (hy : y < s.size) : ∀ (m k : Nat), k + m = y → iter (m_eponymref06_Decode_L22 s ((y + 1 : Nat) : Int)) ((List.range k).map (fun j => bt s ((j : Nat) : Int)), (k : Int)) = some ((List.range y).map fun j => bt s ((j : Nat) : Int))
  | 0, k, hk => by
    have : k = y := by omega
    subst this
    refine iter_done ?_
    unfold m_eponymref06_Decode_L22
    simp only
    rw [up (by omega), show decide (((k + 1 : Nat) : Int) < ((k + 1 : Nat) : Int)) = false by simp, cond_false]
  | m + 1, k, hk => by
    have hb := bt_in s (k : Int)
    have h : m_eponymref06_Decode_L22 s ((y + 1 : Nat) : Int) ((List.range k).map (fun j => bt s ((j : Nat) : Int)), (k : Int)) = some (.next ((List.range (k + 1)).map (fun j => bt s ((j : Nat) : Int)), ((k + 1 : Nat) : Int))) := by
      unfold m_eponymref06_Decode_L22
      simp only
      rw [up (by omega), show decide (((k + 1 : Nat) : Int) < ((y + 1 : Nat) : Int)) = true by simp; omega, cond_true, if_pos (by omega), if_pos (by simp; omega), w32 (by omega) (by omega), List.range_succ, List.map_append]
      rfl
    rw [iter_next h]
    exact pre_ref s hs y hy m (k + 1) (by omega)
theorem pre_none (s : ByteArray) : iter (m_eponymref06_Decode_L22 s 0) ([], 0) = some [] := iter_done (by unfold m_eponymref06_Decode_L22; rfl)
/-- A number's values, from the k-th digit on. -/
def dv (b : Int) : Nat → Int → Int → List Int
  | 0, _, _ => []
  | n + 1, k, d => if d < bnd6 b k then [d] else (bnd6 b k + (d - bnd6 b k) % (36 - bnd6 b k)) :: dv b n (k + 1) ((d - bnd6 b k) / (36 - bnd6 b k))
theorem digs_dv (b : Int) : ∀ (n : Nat) (k d : Int), digs b n k d = (dv b n k d).map sg
  | 0, _, _ => rfl
  | n + 1, k, d => by
    unfold digs dv
    split
    · rfl
    · rw [List.map_cons, digs_dv b n]
/-- Values read as a number. -/
def rdV (b : Int) : Int → Int → Int → List Int → Option (Int × List Int)
  | _, _, _, [] => none
  | k, u, d, v :: vs => if v < 0 then none else if d + v * u > 2147483647 then none else if v < bnd6 b k then some (d + v * u, vs) else rdV b (k + 1) (u * (36 - bnd6 b k)) (d + v * u) vs
theorem rd_dv (b : Int) : ∀ (n : Nat) (k u d0 d : Int) (rest : List Int), 0 ≤ d → d < n → 1 ≤ u → 0 ≤ d0 → d0 + d * u ≤ 2147483647 → rdV b k u d0 (dv b n k d ++ rest) = some (d0 + d * u, rest)
  | 0, k, u, d0, d, rest, h0, h1, h2, h3, h4 => by omega
  | n + 1, k, u, d0, d, rest, h0, h1, h2, h3, h4 => by
    have hB := bnd6_in b k
    unfold dv
    obtain ⟨t, ht⟩ : ∃ t, bnd6 b k = t := ⟨_, rfl⟩
    rw [ht] at hB ⊢
    by_cases hd : d < t
    · rw [if_pos hd, List.cons_append, rdV, if_neg (by omega), if_neg (by omega), if_pos (by omega)]
      rfl
    · rw [if_neg hd]
      have m0 : 0 ≤ (d - t) % (36 - t) := Int.emod_nonneg _ (by omega)
      have m1 : (d - t) % (36 - t) < 36 - t := Int.emod_lt_of_pos _ (by omega)
      have q0 : 0 ≤ (d - t) / (36 - t) := Int.ediv_nonneg (by omega) (by omega)
      have q1 : (d - t) / (36 - t) ≤ d - t := Int.ediv_le_self _ (by omega)
      have e := Int.emod_add_mul_ediv (d - t) (36 - t)
      generalize (d - t) % (36 - t) = m at m0 m1 e ⊢
      generalize (d - t) / (36 - t) = q at q0 q1 e ⊢
      have e2 : d0 + (t + m) * u + q * (u * (36 - t)) = d0 + d * u := by
        have : d = t + m + (36 - t) * q := by omega
        rw [this]; grind
      have hqu : 0 ≤ q * (u * (36 - t)) := Int.mul_nonneg q0 (Int.mul_nonneg (by omega) (by omega))
      have htu : 0 ≤ (t + m) * u := Int.mul_nonneg (by omega) (by omega)
      have hu : 1 ≤ u * (36 - t) := by
        have := Int.mul_le_mul_of_nonneg_right h2 (show 0 ≤ 36 - t by omega)
        omega
      have ih := rd_dv b n (k + 1) (u * (36 - t)) (d0 + (t + m) * u) q rest q0 (by omega) hu (by omega) (by omega)
      rw [List.cons_append, rdV, if_neg (by omega), if_neg (by omega), if_neg (by omega), ht, ih, e2]
/-- What is read is the number's own values. -/
theorem dv_rd (b : Int) : ∀ (vs : List Int) (k u d0 D : Int) (vs' : List Int), (∀ v ∈ vs, v ≤ 35) → rdV b k u d0 vs = some (D, vs') → ∃ d, 0 ≤ d ∧ D = d0 + d * u ∧ ∀ n : Nat, d < n → vs = dv b n k d ++ vs'
  | [], k, u, d0, D, vs', hv, h => by cases h
  | v :: vs, k, u, d0, D, vs', hv, h => by
    have hB := bnd6_in b k
    have h35 := hv v List.mem_cons_self
    rw [rdV] at h
    obtain ⟨t, ht⟩ : ∃ t, bnd6 b k = t := ⟨_, rfl⟩
    rw [ht] at hB h
    by_cases h0 : v < 0
    · rw [if_pos h0] at h; cases h
    rw [if_neg h0] at h
    by_cases h1 : d0 + v * u > 2147483647
    · rw [if_pos h1] at h; cases h
    rw [if_neg h1] at h
    by_cases h2 : v < t
    · rw [if_pos h2] at h
      have e := Option.some.inj h
      have e2 : vs = vs' := congrArg Prod.snd e
      subst e2
      refine ⟨v, by omega, (congrArg Prod.fst e).symm, fun n hn => ?_⟩
      obtain ⟨m, rfl⟩ : ∃ m, n = m + 1 := ⟨n - 1, by omega⟩
      rw [dv, ht, if_pos h2]
      rfl
    · rw [if_neg h2] at h
      obtain ⟨q, q0, q1, q2⟩ := dv_rd b vs (k + 1) (u * (36 - t)) (d0 + v * u) D vs' (fun x hx => hv x (List.mem_cons_of_mem _ hx)) h
      have hq : 0 ≤ (36 - t) * q := Int.mul_nonneg (by omega) q0
      have hq2 : 1 * q ≤ (36 - t) * q := Int.mul_le_mul_of_nonneg_right (by omega) q0
      refine ⟨v + (36 - t) * q, by omega, by rw [q1]; grind, fun n hn => ?_⟩
      obtain ⟨m, rfl⟩ : ∃ m, n = m + 1 := ⟨n - 1, by omega⟩
      have e1 : v + (36 - t) * q - t = (v - t) + (36 - t) * q := by omega
      have e2 : (v + (36 - t) * q - t) % (36 - t) = v - t := by
        rw [e1, Int.add_mul_emod_self_left, Int.emod_eq_of_lt (by omega) (by omega)]
      have e3 : (v + (36 - t) * q - t) / (36 - t) = q := by
        rw [e1, Int.add_mul_ediv_left _ _ (by omega), Int.ediv_eq_zero_of_lt (by omega) (by omega)]
        omega
      rw [dv, ht, if_neg (by omega), e2, e3, List.cons_append, ← q2 m (by omega)]
      congr 1; omega
/-- A run over values, to the runes. -/
inductive Run : Int → Bool → Int → Int → List Int → List Int → List Int → Prop
  | nil {b : Int} {f : Bool} {n i : Int} {out : List Int} : Run b f n i out [] out
  | step {b : Int} {f : Bool} {n i : Int} {out vs vs' l : List Int} {d : Int} : rdV b 0 1 0 vs = some (d, vs') → rgt (n + (i + d) / ((out.length : Int) + 1)) = true →
      Run (bv d ((out.length : Int) + 1) (!f)) true (n + (i + d) / ((out.length : Int) + 1)) ((i + d) % ((out.length : Int) + 1) + 1) (out.take ((i + d) % ((out.length : Int) + 1)).toNat ++ (n + (i + d) / ((out.length : Int) + 1)) :: out.drop ((i + d) % ((out.length : Int) + 1)).toNat) vs' l → Run b f n i out vs l
theorem Run.inv {b : Int} {f : Bool} {n i : Int} {out vs l : List Int} (h : Run b f n i out vs l) : (vs = [] ∧ l = out) ∨ ∃ d vs', rdV b 0 1 0 vs = some (d, vs') ∧ rgt (n + (i + d) / ((out.length : Int) + 1)) = true ∧
    Run (bv d ((out.length : Int) + 1) (!f)) true (n + (i + d) / ((out.length : Int) + 1)) ((i + d) % ((out.length : Int) + 1) + 1) (out.take ((i + d) % ((out.length : Int) + 1)).toNat ++ (n + (i + d) / ((out.length : Int) + 1)) :: out.drop ((i + d) % ((out.length : Int) + 1)).toNat) vs' l := by
  cases h with
  | nil => exact .inl ⟨rfl, rfl⟩
  | step h1 h2 h3 => exact .inr ⟨_, _, h1, h2, h3⟩
/-- The values from a place on. -/
def valsAt (s : ByteArray) (at_ : Nat) : List Int := (List.range (s.size - at_)).map fun j => valV (bt s ((at_ + j : Nat) : Int))
theorem valsAt_cons (s : ByteArray) (at_ : Nat) (h : at_ < s.size) : valsAt s at_ = valV (bt s (at_ : Int)) :: valsAt s (at_ + 1) := by
  unfold valsAt
  rw [show s.size - at_ = (s.size - (at_ + 1)) + 1 by omega, List.range_succ_eq_map, List.map_cons, List.map_map]
  congr 1
  refine List.map_congr_left fun j _ => ?_
  simp only [Function.comp]
  rw [show at_ + (j + 1) = at_ + 1 + j by omega]
theorem valsAt_end (s : ByteArray) : valsAt s s.size = [] := by unfold valsAt; rw [Nat.sub_self]; rfl
theorem valsAt_ne (s : ByteArray) (at_ : Nat) (h : at_ < s.size) : valsAt s at_ ≠ [] := by rw [valsAt_cons s at_ h]; simp
theorem valsAt_len (s : ByteArray) (at_ : Nat) : (valsAt s at_).length = s.size - at_ := by unfold valsAt; simp
theorem valsAt_le (s : ByteArray) (at_ : Nat) : ∀ v ∈ valsAt s at_, v ≤ 35 := fun v hv => by
  unfold valsAt at hv
  obtain ⟨j, _, rfl⟩ := List.mem_map.1 hv
  exact (valV_in _).2
theorem bw6 (b k : Int) (hk : 0 ≤ k) (hk' : k ≤ 1000000000) (hb : 0 ≤ b) (hb' : b ≤ 1000000000) : bw b k = bnd6 b k := by
  unfold bw bnd6
  rw [w64 (x := k + 1) (by omega) (by omega), w64 (x := 36 * (k + 1)) (by omega) (by omega), w64 (by omega) (by omega)]
/-- The loop over a number's digits. -/
theorem num_code (s : ByteArray) (hs : s.size ≤ 1000) (b : Int) (f : Bool) (n i : Int) (out : List Int) (hb : 0 ≤ b) (hb' : b ≤ 1000) : ∀ (M at_ : Nat) (d u k : Int), at_ + M = s.size → 0 ≤ d → d ≤ 2147483647 → 1 ≤ u → u ≤ 75161927645 → 0 ≤ k → k ≤ at_ →
    (∃ D vs', rdV b k u d (valsAt s at_) = some (D, vs') ∧ 0 ≤ D ∧ D ≤ 2147483647 ∧ vs'.length + at_ < s.size ∧ valsAt s (s.size - vs'.length) = vs' ∧ iter (m_puny_decoder_number_own_L3 out) (b, f, s, (at_ : Int), n, i, d, u, k) = some (b, f, s, ((s.size - vs'.length : Nat) : Int), n, i, D, .nil)) ∨
    (rdV b k u d (valsAt s at_) = none ∧ ∃ a e, Er.isNil e = false ∧ iter (m_puny_decoder_number_own_L3 out) (b, f, s, (at_ : Int), n, i, d, u, k) = some (b, f, s, a, n, i, 0, e)) := by
  intro M
  induction M with
  | zero =>
    intro at_ d u k hM hd hd' hu hu' hk hk'
    have hat : at_ = s.size := by omega
    subst hat
    refine .inr ⟨by rw [valsAt_end]; rfl, ((s.size : Nat) : Int), .box 62 ((s.size : Nat) : Int) (.sent 9), rfl, iter_done ?_⟩
    unfold m_puny_decoder_number_own_L3
    simp only [beq_self_eq_true, cond_true]
    rfl
  | succ M ih =>
    intro at_ d u k hM hd hd' hu hu' hk hk'
    have hlt : at_ < s.size := by omega
    have hbt := bt_in s (at_ : Int)
    have hv := valV_in (bt s (at_ : Int))
    have e1 : (((at_ : Int)) == ((s.size : Nat) : Int)) = false := beqF (by omega)
    have hw : IntKind.wrap .i64 ((at_ : Int) + 1) = ((at_ + 1 : Nat) : Int) := up (by omega)
    have hv1 := value_eq hbt.1 hbt.2
    rw [valsAt_cons s at_ hlt]
    generalize hV : valV (bt s (at_ : Int)) = v at hv hv1
    by_cases hneg : v < 0
    · refine .inr ⟨by rw [rdV, if_pos hneg], (at_ : Int), .box 62 (at_ : Int) (.sent 17), rfl, iter_done ?_⟩
      unfold m_puny_decoder_number_own_L3
      simp only [e1, cond_false]
      rw [if_pos (by omega), hv1, bind_some', decide_eq_true hneg, cond_true]
      rfl
    have hvn : decide (v < 0) = false := decide_eq_false hneg
    have hvu : 0 ≤ v * u := Int.mul_nonneg (by omega) (by omega)
    have hvu2 : v * u ≤ 35 * u := Int.mul_le_mul_of_nonneg_right hv.2 (by omega)
    have hD : IntKind.wrap .i64 (d + IntKind.wrap .i64 (v * u)) = d + v * u := by rw [w64 (x := v * u) (by omega) (by omega), w64 (by omega) (by omega)]
    by_cases hbig : d + v * u > 2147483647
    · refine .inr ⟨by rw [rdV, if_neg hneg, if_pos hbig], (at_ : Int), .box 62 (at_ : Int) (.sent 4), rfl, iter_done ?_⟩
      unfold m_puny_decoder_number_own_L3
      simp only [e1, cond_false]
      rw [if_pos (by omega), hv1, bind_some', hvn, cond_false, hD, decide_eq_true hbig, cond_true]
      rfl
    have hbf : decide (d + v * u > 2147483647) = false := decide_eq_false hbig
    have hbd : ∀ q, m_puny_bias_bound_own2 b f s q n i out k = some (b, f, s, q, n, i, bw b k) := fun q => rfl
    have hbw := bw6 b k hk (by omega) hb (by omega)
    have hB := bnd6_in b k
    by_cases hend : v < bnd6 b k
    · refine .inl ⟨d + v * u, valsAt s (at_ + 1), by rw [rdV, if_neg hneg, if_neg hbig, if_pos hend], by omega, by omega, by rw [valsAt_len]; omega, ?_, iter_done ?_⟩
      · rw [valsAt_len]; congr 1; omega
      · unfold m_puny_decoder_number_own_L3
        simp only [e1, cond_false]
        rw [if_pos (by omega), hv1, bind_some', hvn, cond_false, hD, hbf, cond_false, hw, hbd, bind_some', hbw]
        simp only [decide_eq_true hend, cond_true]
        rw [valsAt_len, show s.size - (s.size - (at_ + 1)) = at_ + 1 by omega]
    · have hu35 : u * (36 - bnd6 b k) ≤ u * 35 := Int.mul_le_mul_of_nonneg_left (by omega) (by omega)
      have hu1 : 1 ≤ u * (36 - bnd6 b k) := by
        have := Int.mul_le_mul_of_nonneg_right hu (show 0 ≤ 36 - bnd6 b k by omega)
        omega
      have hvu3 : 1 * u ≤ v * u := Int.mul_le_mul_of_nonneg_right (by omega) (by omega)
      have hstep : m_puny_decoder_number_own_L3 out (b, f, s, (at_ : Int), n, i, d, u, k) = some (.next (b, f, s, ((at_ + 1 : Nat) : Int), n, i, d + v * u, u * (36 - bnd6 b k), k + 1)) := by
        unfold m_puny_decoder_number_own_L3
        simp only [e1, cond_false]
        rw [if_pos (by omega), hv1, bind_some', hvn, cond_false, hD, hbf, cond_false, hw, hbd, bind_some', hbw]
        simp only [decide_eq_false hend, cond_false]
        rw [w64 (x := 36 - bnd6 b k) (by omega) (by omega), w64 (x := u * (36 - bnd6 b k)) (by omega) (by omega), w64 (x := k + 1) (by omega) (by omega)]
      have hrd : rdV b k u d (v :: valsAt s (at_ + 1)) = rdV b (k + 1) (u * (36 - bnd6 b k)) (d + v * u) (valsAt s (at_ + 1)) := by
        rw [rdV, if_neg hneg, if_neg hbig, if_neg hend]
      rw [hrd, iter_next hstep]
      rcases ih (at_ + 1) (d + v * u) (u * (36 - bnd6 b k)) (k + 1) (by omega) (by omega) (by omega) hu1 (by omega) (by omega) (by omega) with ⟨D, vs', g1, g2, g3, g4, g5, g6⟩ | h
      · exact .inl ⟨D, vs', g1, g2, g3, by omega, g5, g6⟩
      · exact .inr h
/-- The loop over the numbers. -/
theorem cont_ok (s : ByteArray) (out : List Int) (b : Int) (f : Bool) (a : Int) (n i D : Int) (ho : out.length ≤ 1000) (hi : 0 ≤ i) (hi' : i ≤ 2000) (hn : 0 ≤ n) (hn' : n ≤ 1114111) (hD : 0 ≤ D) (hD' : D ≤ 2147483647) :
    contC s out (b, f, s, a, n, i, D, .nil) = if rgt (n + (i + D) / ((out.length : Int) + 1)) = true then
        iter (m_puny_Decode_L10 s) (bv D ((out.length : Int) + 1) (!f), true, s, a, n + (i + D) / ((out.length : Int) + 1), (i + D) % ((out.length : Int) + 1) + 1, out.take ((i + D) % ((out.length : Int) + 1)).toNat ++ (n + (i + D) / ((out.length : Int) + 1)) :: out.drop ((i + D) % ((out.length : Int) + 1)).toNat)
      else some (.inr ([], .box 62 (IntKind.wrap .i64 (a - 1)) (.sent 3))) := by
  have eM : IntKind.wrap .i64 (((out.length : Nat) : Int) + 1) = (out.length : Int) + 1 := w64 (by omega) (by omega)
  have q0 : 0 ≤ (i + D) / ((out.length : Int) + 1) := Int.ediv_nonneg (by omega) (by omega)
  have q1 : (i + D) / ((out.length : Int) + 1) ≤ i + D := Int.ediv_le_self _ (by omega)
  have m0 : 0 ≤ (i + D) % ((out.length : Int) + 1) := Int.emod_nonneg _ (by omega)
  have m1 : (i + D) % ((out.length : Int) + 1) < (out.length : Int) + 1 := Int.emod_lt_of_pos _ (by omega)
  have eN : IntKind.wrap .i64 (n + IntKind.wrap .i64 (Int.tdiv (IntKind.wrap .i64 (i + D)) ((out.length : Int) + 1))) = n + (i + D) / ((out.length : Int) + 1) := by
    rw [w64 (x := i + D) (by omega) (by omega), Int.tdiv_eq_ediv_of_nonneg (by omega), w64 (x := (i + D) / ((out.length : Int) + 1)) (by omega) (by omega), w64 (by omega) (by omega)]
  have eI : Int.tmod (IntKind.wrap .i64 (i + D)) ((out.length : Int) + 1) = (i + D) % ((out.length : Int) + 1) := by
    rw [w64 (x := i + D) (by omega) (by omega), Int.tmod_eq_emod_of_nonneg (by omega)]
  unfold contC
  simp only [Er.isNil, Bool.not_true, cond_false]
  unfold m_puny_bias_adapt_own2
  simp only [eM, bv_code, bindS]
  rw [if_pos (by omega), if_pos (by omega)]
  simp only [eN]
  unfold m_puny_decoder_next_own_K4
  simp only [eM, eN, eI]
  generalize (i + D) / ((out.length : Int) + 1) = q at q0 q1
  generalize (i + D) % ((out.length : Int) + 1) = m at m0 m1
  by_cases hbig : n + q > 1114111
  · have hr : rgt (n + q) = false := by unfold rgt; exact decide_eq_false (by omega)
    rw [decide_eq_true hbig, cond_true, bindS, cond_true, hr, if_neg (by simp)]
    rfl
  · rw [decide_eq_false hbig, cond_false, w32 (x := n + q) (by omega) (by omega), rgt_code, bindS, bindS]
    cases hr : rgt (n + q) with
    | true =>
      rw [Bool.not_true, cond_false, if_pos rfl]
      unfold m_slices_Insert
      simp only
      rw [if_pos (by omega), bindS, bindS, w64 (x := m + 1) (by omega) (by omega)]
      rfl
    | false =>
      rw [Bool.not_false, cond_true, if_neg (by simp)]
      rfl
theorem run_code (s : ByteArray) (hs : s.size ≤ 120) : ∀ (M at_ : Nat) (b : Int) (f : Bool) (n i : Int) (out : List Int), s.size - at_ ≤ M → at_ ≤ s.size → 0 ≤ b → b ≤ 1000 → 0 ≤ n → n ≤ 1114111 → 0 ≤ i → i ≤ out.length → out.length ≤ at_ →
    (∃ l bb ff nn ii, Run b f n i out (valsAt s at_) l ∧ iter (m_puny_Decode_L10 s) (b, f, s, (at_ : Int), n, i, out) = some (.inl (bb, ff, s, ((s.size : Nat) : Int), nn, ii, l))) ∨
    ((∀ l, ¬ Run b f n i out (valsAt s at_) l) ∧ ∃ e, Er.isNil e = false ∧ iter (m_puny_Decode_L10 s) (b, f, s, (at_ : Int), n, i, out) = some (.inr ([], e))) := by
  intro M
  induction M with
  | zero =>
    intro at_ b f n i out hM hat hb hb' hn hn' hi hi' ho
    have : at_ = s.size := by omega
    subst this
    refine .inl ⟨out, b, f, n, i, by rw [valsAt_end]; exact .nil, iter_done ?_⟩
    unfold m_puny_Decode_L10
    simp
  | succ M ih =>
    intro at_ b f n i out hM hat hb hb' hn hn' hi hi' ho
    by_cases hend : at_ = s.size
    · subst hend
      refine .inl ⟨out, b, f, n, i, by rw [valsAt_end]; exact .nil, iter_done ?_⟩
      unfold m_puny_Decode_L10
      simp
    have hlt : at_ < s.size := by omega
    rw [group s b f at_ n i out hlt]
    rcases num_code s (by omega) b f n i out hb hb' (s.size - at_) at_ 0 1 0 (by omega) (by omega) (by omega) (by omega) (by omega) (by omega) (by omega) with ⟨D, vs', g1, g2, g3, g4, g5, g6⟩ | ⟨g1, a, e, g2, g3⟩
    · rw [g6, bindS, cont_ok s out b f _ n i D (by omega) hi (by omega) hn hn' g2 g3]
      have m0 : 0 ≤ (i + D) % ((out.length : Int) + 1) := Int.emod_nonneg _ (by omega)
      have m1 : (i + D) % ((out.length : Int) + 1) < (out.length : Int) + 1 := Int.emod_lt_of_pos _ (by omega)
      cases hr : rgt (n + (i + D) / ((out.length : Int) + 1)) with
      | true =>
        rw [if_pos rfl]
        have hrr := rgt_in hr
        have hbv := bv_in D ((out.length : Int) + 1) (!f)
        rcases ih (s.size - vs'.length) (bv D ((out.length : Int) + 1) (!f)) true (n + (i + D) / ((out.length : Int) + 1)) ((i + D) % ((out.length : Int) + 1) + 1) (out.take ((i + D) % ((out.length : Int) + 1)).toNat ++ (n + (i + D) / ((out.length : Int) + 1)) :: out.drop ((i + D) % ((out.length : Int) + 1)).toNat) (by omega) (by omega) hbv.1 hbv.2 hrr.1 hrr.2 (by omega) (by simp; omega) (by simp; omega) with ⟨l, bb, ff, nn, ii, h1, h2⟩ | ⟨h1, h2⟩
        · rw [g5] at h1
          exact .inl ⟨l, bb, ff, nn, ii, .step g1 hr h1, h2⟩
        · refine .inr ⟨fun l hl => ?_, h2⟩
          rw [g5] at h1
          rcases hl.inv with ⟨k1, _⟩ | ⟨d', w, k1, k2, k3⟩
          · exact valsAt_ne s at_ hlt k1
          · rw [g1] at k1
            have e := Option.some.inj k1
            have e1 : D = d' := congrArg Prod.fst e
            have e2 : vs' = w := congrArg Prod.snd e
            subst e1 e2
            exact h1 l k3
      | false =>
        rw [if_neg (by simp)]
        refine .inr ⟨fun l hl => ?_, _, rfl, rfl⟩
        rcases hl.inv with ⟨k1, _⟩ | ⟨d', w, k1, k2, k3⟩
        · exact valsAt_ne s at_ hlt k1
        · rw [g1] at k1
          have e1 : D = d' := congrArg Prod.fst (Option.some.inj k1)
          subst e1
          rw [hr] at k2
          cases k2
    · refine .inr ⟨fun l hl => ?_, e, g2, ?_⟩
      · rcases hl.inv with ⟨k1, _⟩ | ⟨d', w, k1, k2, k3⟩
        · exact valsAt_ne s at_ hlt k1
        · rw [g1] at k1; cases k1
      · rw [g3, bindS]
        unfold contC
        simp only [g2, Bool.not_false, cond_true, bindS]
/-- The values that are told of all of a kind, and of all kinds. -/
noncomputable def allV (l : List Int) (r : Int) : Nat → Nat → EncS → List Int
  | 0, _, _ => []
  | n + 1, k, s => (if l.getD k 0 = r then dv s.b 2147483648 0 (dOf s r (ahN l r k)) else []) ++ allV l r n (k + 1) (stepA l r k s)
noncomputable def foldV (l : List Int) : List Int → EncS → List Int
  | [], _ => []
  | r :: q, s => allV l r l.length 0 s ++ foldV l q (allF l r l.length 0 s)
theorem allF_o (l : List Int) (r : Int) : ∀ (n k : Nat) (s : EncS), (allF l r n k s).o = s.o ++ (allV l r n k s).map sg
  | 0, k, s => by simp [allF, allV]
  | n + 1, k, s => by
    rw [allF, allV, allF_o l r n (k + 1)]
    unfold stepA
    split
    · show (s.o ++ digs _ _ _ _) ++ _ = _
      rw [digs_dv, List.map_append, List.append_assoc]
    · rfl
theorem foldE_o (l : List Int) : ∀ (q : List Int) (s : EncS), (foldE l q s).o = s.o ++ (foldV l q s).map sg
  | [], s => by simp [foldE, foldV]
  | r :: q, s => by
    show (foldE l q (allF l r l.length 0 s)).o = _
    rw [foldE_o l q, allF_o, foldV, List.map_append, List.append_assoc]
/-- What is there when the first k of a kind have been told. -/
def dN (l : List Int) (r : Int) (k : Nat) : List Int := (l.take k).filter (fun x => decide (x ≤ r)) ++ (l.drop k).filter fun x => decide (x < r)
theorem dN_skip {l : List Int} {r : Int} {k : Nat} (hk : k < l.length) (h : l.getD k 0 ≠ r) : dN l r (k + 1) = dN l r k := by
  unfold dN
  rw [take_snoc l k hk, drop_getD (d := 0) hk, List.filter_append, List.append_assoc]
  generalize l.getD k 0 = x at h
  by_cases hx : x < r
  · have h1 : decide (x ≤ r) = true := decide_eq_true (by omega)
    simp only [List.filter_cons, List.filter_nil, h1, decide_eq_true hx, if_true, List.cons_append, List.nil_append]
  · have h1 : decide (x ≤ r) = false := decide_eq_false (by omega)
    simp only [List.filter_cons, List.filter_nil, h1, decide_eq_false hx, Bool.false_eq_true, if_false, List.nil_append]
theorem dN_at {l : List Int} {r : Int} {k : Nat} (hk : k < l.length) (h : l.getD k 0 = r) : dN l r (k + 1) = (dN l r k).take (ahN l r k) ++ r :: (dN l r k).drop (ahN l r k) := by
  have hlen : ((l.take k).filter (fun x => decide (x ≤ r))).length = ahN l r k := by
    unfold ahN; rw [List.countP_eq_length_filter]
  have h1 : decide (r ≤ r) = true := decide_eq_true (by omega)
  have h2 : decide (r < r) = false := decide_eq_false (by omega)
  have e1 : dN l r (k + 1) = (l.take k).filter (fun x => decide (x ≤ r)) ++ r :: (l.drop k).filter fun x => decide (x < r) := by
    unfold dN
    rw [take_snoc l k hk, drop_getD (d := 0) hk, List.filter_append, List.append_assoc, h]
    simp only [List.filter_cons, List.filter_nil, h1, h2, if_true, Bool.false_eq_true, if_false, List.cons_append, List.nil_append]
  rw [e1]
  unfold dN
  rw [List.take_left' hlen, List.drop_left' hlen]
theorem dN_len {l : List Int} {r : Int} : ∀ k, k ≤ l.length → (dN l r k).length = ltN l r + eqN l r k
  | 0, _ => by
    unfold dN ltN eqN
    simp [List.countP_eq_length_filter]
  | k + 1, h => by
    have ih := dN_len (l := l) (r := r) k (by omega)
    have e := eqN_succ l r k (by omega)
    by_cases hx : l.getD k 0 = r
    · rw [if_pos hx] at e
      rw [dN_at (by omega) hx, e]
      have := ah_le l r k
      simp; omega
    · rw [if_neg hx] at e
      rw [dN_skip (by omega) hx, ih, e]
      omega
theorem run_all {l : List Int} {r : Int} (hr : rgt r = true) {rest fin : List Int} : ∀ (n k : Nat) (s : EncS), k + n = l.length → EInv l r k s →
    Run (allF l r n k s).b (allF l r n k s).f (allF l r n k s).n (allF l r n k s).i (dN l r l.length) rest fin → Run s.b s.f s.n s.i (dN l r k) (allV l r n k s ++ rest) fin
  | 0, k, s, hk, h, hrun => by
    have : l.length = k := by omega
    rw [this] at hrun
    exact hrun
  | n + 1, k, s, hk, h, hrun => by
    rw [allF] at hrun
    have ih := run_all hr n (k + 1) (stepA l r k s) (by omega) (inv_step h (by omega)) hrun
    rw [allV, List.append_assoc]
    by_cases hx : l.getD k 0 = r
    · rw [if_pos hx]
      have hst : stepA l r k s = putE s r (ahN l r k) := by unfold stepA; rw [if_pos hx]
      rw [hst] at ih ⊢
      obtain ⟨d0, d1, a1, a2⟩ := dOf_in h
      have hrd := rd_dv s.b 2147483648 0 1 0 (dOf s r (ahN l r k)) (allV l r n (k + 1) (putE s r (ahN l r k)) ++ rest) d0 (by omega) (by omega) (by omega) (by omega)
      rw [Int.mul_one, Int.zero_add] at hrd
      have hlen := dN_len (l := l) (r := r) k (by omega)
      have hm := h.m
      have hah := ah_le l r k
      have hid : s.i + dOf s r (ahN l r k) = (ahN l r k : Int) + (s.m + 1) * (r - s.n) := by
        unfold dOf
        rw [Int.mul_comm (s.m + 1)]; omega
      have hL : ((dN l r k).length : Int) + 1 = s.m + 1 := by omega
      have e1 : s.n + (s.i + dOf s r (ahN l r k)) / (((dN l r k).length : Int) + 1) = r := by
        rw [hid, hL, Int.add_mul_ediv_left _ _ (by omega), Int.ediv_eq_zero_of_lt (by omega) (by omega)]
        omega
      have e2 : (s.i + dOf s r (ahN l r k)) % (((dN l r k).length : Int) + 1) = (ahN l r k : Int) := by
        rw [hid, hL, Int.add_mul_emod_self_left, Int.emod_eq_of_lt (by omega) (by omega)]
      refine Run.step hrd (by rw [e1]; exact hr) ?_
      rw [e1, e2, hL, Int.toNat_natCast, ← dN_at (by omega) hx]
      exact ih
    · rw [if_neg hx, List.nil_append]
      have hst : stepA l r k s = s := by unfold stepA; rw [if_neg hx]
      rw [hst, dN_skip (by omega) hx] at ih
      rw [hst]
      exact ih
theorem run_fold {l : List Int} : ∀ (q : List Int) (lo : Int) (s : EncS), SInv l lo s → Rest l lo q → Run s.b s.f s.n s.i (l.filter fun x => decide (x ≤ lo)) (foldV l q s) l
  | [], lo, s, hs, hr => by
    have : l.filter (fun x => decide (x ≤ lo)) = l := List.filter_eq_self.2 fun x hx => by
      by_cases hc : lo < x
      · have := (hr.mem x).2 ⟨hx, hc⟩
        cases this
      · simp; omega
    rw [this]
    exact .nil
  | r :: q, lo, s, hs, hr => by
    obtain ⟨h1, h2, h3, h4⟩ := hr.head
    have ih := run_fold q r _ (sinv_next hs hr) h4
    have e0 : dN l r 0 = l.filter fun x => decide (x ≤ lo) := by
      unfold dN
      simp only [List.take_zero, List.filter_nil, List.nil_append, List.drop_zero]
      exact List.filter_congr fun x hx => by rw [decide_eq_decide]; exact h3 x hx
    have e1 : dN l r l.length = l.filter fun x => decide (x ≤ r) := by
      unfold dN
      simp
    rw [← e0]
    rw [← e1] at ih
    exact run_all (hs.rt r h1) l.length 0 s (by omega) (sinv_einv hs hr) ih
/-- What is written. -/
noncomputable def valsE (l : List Int) : List Int := foldV l (dst (bigs l)) ⟨72, false, baseO l, 128, 0, ((bas l).length : Int)⟩
theorem encS0_o (l : List Int) : (encS0 l).o = baseO l ++ (valsE l).map sg := foldE_o l _ _
theorem run_enc (l : List Int) (hl : l.length ≤ 120) (hr : ∀ x ∈ l, rgt x = true) : Run 72 false 128 0 (bas l) (valsE l) l := by
  have h := run_fold (dst (bigs l)) 127 ⟨72, false, baseO l, 128, 0, ((bas l).length : Int)⟩ (sinv_start l hl hr) (rest_start l)
  have e : (l.filter fun x => decide (x ≤ 127)) = bas l := List.filter_congr fun x _ => by rw [decide_eq_decide]; omega
  rw [e] at h
  exact h
theorem run_len {b : Int} {f : Bool} {n i : Int} {out vs l : List Int} (h : Run b f n i out vs l) : out.length ≤ l.length := by
  induction h with
  | nil => exact Nat.le_refl _
  | step h1 h2 h3 ih => simp at ih; omega
theorem run_det {b : Int} {f : Bool} {n i : Int} {out vs l l' : List Int} (h : Run b f n i out vs l) (h' : Run b f n i out vs l') : l = l' := by
  induction h with
  | nil =>
    rcases h'.inv with ⟨_, h2⟩ | ⟨d, w, h2, _⟩
    · exact h2.symm
    · cases h2
  | step h1 h2 h3 ih =>
    rcases h'.inv with ⟨k1, _⟩ | ⟨d', w, k1, k2, k3⟩
    · rw [k1] at h1; cases h1
    · rw [h1] at k1
      have e1 := congrArg Prod.fst (Option.some.inj k1)
      have e2 := congrArg Prod.snd (Option.some.inj k1)
      simp only at e1 e2
      subst e1 e2
      exact ih k3
/-- Where a run stands: all is at most n, and n itself stands ahead of i alone. -/
structure At (n i : Int) (out : List Int) : Prop where
  i0 : 0 ≤ i
  il : i ≤ out.length
  le : ∀ x ∈ out, x ≤ n
  ne : ∀ j : Nat, i ≤ j → j < out.length → out.getD j 0 ≠ n
theorem step_facts {n i d : Int} {out : List Int} (h : At n i out) (hd : 0 ≤ d) : 0 ≤ (i + d) / ((out.length : Int) + 1) ∧ 0 ≤ (i + d) % ((out.length : Int) + 1) ∧ (i + d) % ((out.length : Int) + 1) ≤ out.length ∧ ((i + d) / ((out.length : Int) + 1) = 0 → i ≤ (i + d) % ((out.length : Int) + 1)) ∧ (i + d) % ((out.length : Int) + 1) + ((out.length : Int) + 1) * ((i + d) / ((out.length : Int) + 1)) = i + d := by
  have h1 := h.i0
  have h2 := h.il
  have q0 : 0 ≤ (i + d) / ((out.length : Int) + 1) := Int.ediv_nonneg (by omega) (by omega)
  have m0 : 0 ≤ (i + d) % ((out.length : Int) + 1) := Int.emod_nonneg _ (by omega)
  have m1 : (i + d) % ((out.length : Int) + 1) < (out.length : Int) + 1 := Int.emod_lt_of_pos _ (by omega)
  have e := Int.emod_add_mul_ediv (i + d) ((out.length : Int) + 1)
  refine ⟨q0, m0, by omega, fun hq => ?_, e⟩
  rw [hq, Int.mul_zero] at e
  omega
theorem getD_ins (out : List Int) (p j : Nat) (x : Int) (hp : p ≤ out.length) : (out.take p ++ x :: out.drop p).getD j 0 = if j < p then out.getD j 0 else if j = p then x else out.getD (j - 1) 0 := by
  simp only [List.getD_eq_getElem?_getD, List.getElem?_append, List.length_take, List.getElem?_take]
  rw [Nat.min_eq_left hp]
  by_cases h : j < p
  · rw [if_pos h, if_pos h, if_pos h]
  · rw [if_neg h, if_neg h]
    by_cases h2 : j = p
    · rw [if_pos h2, h2, Nat.sub_self]; rfl
    · rw [if_neg h2]
      obtain ⟨m, rfl⟩ : ∃ m, j = p + (m + 1) := ⟨j - p - 1, by omega⟩
      rw [show p + (m + 1) - p = m + 1 by omega, List.getElem?_cons_succ, List.getElem?_drop]
      congr 2
theorem At.next {n i d : Int} {out : List Int} (h : At n i out) (hd : 0 ≤ d) : At (n + (i + d) / ((out.length : Int) + 1)) ((i + d) % ((out.length : Int) + 1) + 1) (out.take ((i + d) % ((out.length : Int) + 1)).toNat ++ (n + (i + d) / ((out.length : Int) + 1)) :: out.drop ((i + d) % ((out.length : Int) + 1)).toNat) := by
  obtain ⟨q0, m0, m1, hq, _⟩ := step_facts h hd
  generalize (i + d) / ((out.length : Int) + 1) = q at q0 hq
  generalize (i + d) % ((out.length : Int) + 1) = p at m0 m1 hq
  obtain ⟨P, rfl⟩ : ∃ P : Nat, p = P := ⟨p.toNat, by omega⟩
  rw [Int.toNat_natCast]
  refine ⟨by omega, by simp; omega, fun x hx => ?_, fun j hj hjl => ?_⟩
  · rcases List.mem_append.1 hx with hx | hx
    · have := h.le x (List.mem_of_mem_take hx); omega
    · rcases List.mem_cons.1 hx with rfl | hx
      · omega
      · have := h.le x (List.mem_of_mem_drop hx); omega
  · rw [getD_ins _ _ _ _ (by omega), if_neg (by omega), if_neg (by omega)]
    simp at hjl
    have hin := h.le _ (getD_mem (l := out) (d := 0) (i := j - 1) (by omega))
    by_cases hq0 : q = 0
    · have := hq hq0
      have := h.ne (j - 1) (by omega) (by omega)
      omega
    · omega
theorem rd_nonneg {b : Int} : ∀ {vs : List Int} {k u d D : Int} {vs' : List Int}, rdV b k u d vs = some (D, vs') → ∀ v ∈ vs, v ∈ vs' ∨ 0 ≤ v
  | [], k, u, d, D, vs', h, v, hv => by cases h
  | w :: vs, k, u, d, D, vs', h, v, hv => by
    rw [rdV] at h
    by_cases h0 : w < 0
    · rw [if_pos h0] at h; cases h
    rw [if_neg h0] at h
    split at h
    · cases h
    · split at h
      · have e2 : vs = vs' := congrArg Prod.snd (Option.some.inj h)
        subst e2
        rcases List.mem_cons.1 hv with rfl | hv
        · exact .inr (by omega)
        · exact .inl hv
      · rcases List.mem_cons.1 hv with rfl | hv
        · exact .inr (by omega)
        · exact rd_nonneg h v hv
theorem rd_sub {b : Int} : ∀ {vs : List Int} {k u d D : Int} {vs' : List Int}, rdV b k u d vs = some (D, vs') → (∀ v ∈ vs', v ∈ vs) ∧ vs'.length < vs.length
  | [], k, u, d, D, vs', h => by cases h
  | w :: vs, k, u, d, D, vs', h => by
    rw [rdV] at h
    split at h
    · cases h
    split at h
    · cases h
    split at h
    · have e2 : vs = vs' := congrArg Prod.snd (Option.some.inj h)
      subst e2
      exact ⟨fun v hv => List.mem_cons_of_mem _ hv, by simp⟩
    · obtain ⟨h1, h2⟩ := rd_sub h
      exact ⟨fun v hv => List.mem_cons_of_mem _ (h1 v hv), by simp; omega⟩
/-- What is read is not below nothing. -/
theorem rd_pos {b : Int} {vs : List Int} {D : Int} {vs' : List Int} (hv : ∀ v ∈ vs, v ≤ 35) (h : rdV b 0 1 0 vs = some (D, vs')) : 0 ≤ D ∧ ∀ n : Nat, D < n → vs = dv b n 0 D ++ vs' := by
  obtain ⟨d, h1, h2, h3⟩ := dv_rd b vs 0 1 0 D vs' hv h
  rw [Int.mul_one, Int.zero_add] at h2
  subst h2
  exact ⟨h1, h3⟩
theorem filt_ins (out : List Int) (p : Nat) (x : Int) (g : Int → Bool) (hg : g x = false) : (out.take p ++ x :: out.drop p).filter g = out.filter g := by
  rw [List.filter_append, List.filter_cons, hg, if_neg (by simp), ← List.filter_append, List.take_append_drop]
/-- What is below stays. -/
theorem run_below {b : Int} {f : Bool} {n i : Int} {out vs l : List Int} (h : Run b f n i out vs l) : At n i out → (∀ v ∈ vs, v ≤ 35) → ∀ t, t ≤ n → (l.filter fun x => decide (x < t)) = out.filter fun x => decide (x < t) := by
  induction h with
  | nil => intro _ _ t _; rfl
  | step h1 h2 h3 ih =>
    intro ha hv t ht
    obtain ⟨hd, _⟩ := rd_pos hv h1
    obtain ⟨q0, m0, m1, hq, _⟩ := step_facts ha hd
    rw [ih (ha.next hd) (fun v hx => hv v ((rd_sub h1).1 v hx)) t (by omega)]
    exact filt_ins _ _ _ _ (decide_eq_false (by omega))
theorem filt_all {l : List Int} {g : Int → Bool} (h : ∀ x ∈ l, g x = true) : l.filter g = l := List.filter_eq_self.2 h
theorem filt_filt {l : List Int} {t n : Int} (h : n < t) : (l.filter fun x => decide (x < t)).filter (fun x => decide (x ≤ n)) = l.filter fun x => decide (x ≤ n) := by
  rw [List.filter_filter]
  refine List.filter_congr fun x _ => ?_
  by_cases hx : x ≤ n
  · simp [hx]; omega
  · simp [hx]
/-- .. and so does what stands ahead. -/
theorem run_ahead {b : Int} {f : Bool} {n i : Int} {out vs l : List Int} (h : Run b f n i out vs l) : At n i out → (∀ v ∈ vs, v ≤ 35) → (l.filter fun x => decide (x ≤ n)).take i.toNat = out.take i.toNat := by
  induction h with
  | nil =>
    intro ha hv
    rw [filt_all fun x hx => decide_eq_true (ha.le x hx)]
  | @step b f n i out vs vs' l d h1 h2 h3 ih =>
    intro ha hv
    obtain ⟨hd, _⟩ := rd_pos hv h1
    obtain ⟨q0, m0, m1, hq, _⟩ := step_facts ha hd
    have hn := ha.next hd
    have hv' : ∀ v ∈ vs', v ≤ 35 := fun v hx => hv v ((rd_sub h1).1 v hx)
    have hi0 := ha.i0
    by_cases hq0 : (i + d) / ((out.length : Int) + 1) = 0
    · have e := ih hn hv'
      have h4 := hq hq0
      rw [hq0, Int.add_zero] at e
      have e2 := congrArg (List.take i.toNat) e
      rw [List.take_take, List.take_take, Nat.min_eq_left (by omega)] at e2
      rw [e2, List.take_append_of_le_length (by simp; omega), List.take_take, Nat.min_eq_left (by omega)]
    · have e := run_below h3 hn hv' (n + (i + d) / ((out.length : Int) + 1)) (Int.le_refl _)
      rw [filt_ins _ _ _ _ (decide_eq_false (by omega)), filt_all (l := out) fun x hx => decide_eq_true (by have := ha.le x hx; omega)] at e
      have e2 := congrArg (List.filter fun x => decide (x ≤ n)) e
      rw [filt_filt (by omega), filt_all (l := out) fun x hx => decide_eq_true (ha.le x hx)] at e2
      rw [e2]
theorem lex_no {n i n1 n2 : Int} {p1 p2 : Nat} {out l : List Int} {b1 b2 : Int} {vs1 vs2 : List Int} (ha : At n i out) (hn : n ≤ n1) (hp1 : p1 ≤ out.length) (hp2 : p2 ≤ out.length) (hi : n1 = n → i ≤ p1)
    (g1 : At n1 ((p1 : Int) + 1) (out.take p1 ++ n1 :: out.drop p1)) (g2 : At n2 ((p2 : Int) + 1) (out.take p2 ++ n2 :: out.drop p2)) (hv1 : ∀ v ∈ vs1, v ≤ 35) (hv2 : ∀ v ∈ vs2, v ≤ 35)
    (h1 : Run b1 true n1 ((p1 : Int) + 1) (out.take p1 ++ n1 :: out.drop p1) vs1 l) (h2 : Run b2 true n2 ((p2 : Int) + 1) (out.take p2 ++ n2 :: out.drop p2) vs2 l) (hlt : n1 < n2 ∨ (n1 = n2 ∧ p1 < p2)) : False := by
  have tk : ∀ (p : Nat) (x : Int), p ≤ out.length → (out.take p ++ x :: out.drop p).take (p + 1) = out.take p ++ [x] := by
    intro p x hp
    rw [List.take_append, List.take_of_length_le (by simp; omega), List.length_take, Nat.min_eq_left hp, show p + 1 - p = 1 by omega]
    rfl
  have e1 := run_ahead h1 g1 hv1
  rw [show ((p1 : Int) + 1).toNat = p1 + 1 by omega, tk p1 n1 hp1] at e1
  have key : out.take (p1 + 1) = out.take p1 ++ [n1] := by
    rcases hlt with hlt | ⟨rfl, hlt⟩
    · have e := run_below h2 g2 hv2 n2 (Int.le_refl _)
      rw [filt_ins _ _ _ _ (decide_eq_false (by omega)), filt_all (l := out) fun x hx => decide_eq_true (by have := ha.le x hx; omega)] at e
      have e2 := congrArg (List.filter fun x => decide (x ≤ n1)) e
      rw [filt_filt hlt, filt_all (l := out) fun x hx => decide_eq_true (by have := ha.le x hx; omega)] at e2
      rw [e2] at e1
      exact e1
    · have e2 := run_ahead h2 g2 hv2
      rw [show ((p2 : Int) + 1).toNat = p2 + 1 by omega, tk p2 n1 hp2] at e2
      have e3 := congrArg (List.take (p1 + 1)) e2
      rw [List.take_take, Nat.min_eq_left (by omega), List.take_append_of_le_length (by simp; omega), List.take_take, Nat.min_eq_left (by omega)] at e3
      rw [e3] at e1
      exact e1
  have hlen := congrArg List.length key
  simp at hlen
  have hp : p1 < out.length := by omega
  rw [take_snoc out p1 hp] at key
  have e4 : out.getD p1 0 = n1 := by
    have := List.append_cancel_left key
    exact (List.cons.inj this).1
  by_cases hnn : n1 = n
  · exact ha.ne p1 (hi hnn) hp (by omega)
  · have := ha.le _ (getD_mem (l := out) (d := 0) (i := p1) hp)
    omega
theorem run_inj {b : Int} {f : Bool} {n i : Int} {out vs l : List Int} (h : Run b f n i out vs l) : At n i out → (∀ v ∈ vs, v ≤ 35) → ∀ vs2, (∀ v ∈ vs2, v ≤ 35) → Run b f n i out vs2 l → vs = vs2 := by
  induction h with
  | nil =>
    intro ha hv vs2 hv2 h2
    rcases h2.inv with ⟨k1, _⟩ | ⟨d, w, k1, k2, k3⟩
    · exact k1.symm
    · have := ha.i0
      obtain ⟨hd, _⟩ := rd_pos hv2 k1
      obtain ⟨q0, m0, m1, hq, _⟩ := step_facts ha hd
      have h5 := run_len k3
      simp at h5
      omega
  | @step b f n i out vs vs' l d h1 h2 h3 ih =>
    intro ha hv vs2 hv2 hr
    obtain ⟨hd, hvs⟩ := rd_pos hv h1
    obtain ⟨q0, m0, m1, hq, hsum⟩ := step_facts ha hd
    have hv' : ∀ v ∈ vs', v ≤ 35 := fun v hx => hv v ((rd_sub h1).1 v hx)
    have hn := ha.next hd
    rcases hr.inv with ⟨k1, k2⟩ | ⟨d2, w, k1, k2, k3⟩
    · have h5 := run_len h3
      rw [k2] at h5
      simp at h5
      omega
    · obtain ⟨hd2, hvs2⟩ := rd_pos hv2 k1
      obtain ⟨q0', m0', m1', hq', hsum'⟩ := step_facts ha hd2
      have hw : ∀ v ∈ w, v ≤ 35 := fun v hx => hv2 v ((rd_sub k1).1 v hx)
      have hn2 := ha.next hd2
      have hsame : (i + d) / ((out.length : Int) + 1) = (i + d2) / ((out.length : Int) + 1) ∧ (i + d) % ((out.length : Int) + 1) = (i + d2) % ((out.length : Int) + 1) := by
        have t1 := h3
        have t2 := k3
        generalize (i + d) / ((out.length : Int) + 1) = Q1 at *
        generalize (i + d2) / ((out.length : Int) + 1) = Q2 at *
        generalize (i + d) % ((out.length : Int) + 1) = P1 at *
        generalize (i + d2) % ((out.length : Int) + 1) = P2 at *
        obtain ⟨p1, rfl⟩ : ∃ p : Nat, P1 = p := ⟨P1.toNat, by omega⟩
        obtain ⟨p2, rfl⟩ : ∃ p : Nat, P2 = p := ⟨P2.toNat, by omega⟩
        rw [Int.toNat_natCast] at hn hn2 t1 t2
        by_cases hs : Q1 = Q2 ∧ p1 = p2
        · exact ⟨hs.1, by omega⟩
        · exfalso
          by_cases hlt : n + Q1 < n + Q2 ∨ (n + Q1 = n + Q2 ∧ p1 < p2)
          · exact lex_no ha (by omega) (by omega) (by omega) (fun h => hq (by omega)) hn hn2 hv' hw t1 t2 hlt
          · exact lex_no ha (by omega) (by omega) (by omega) (fun h => hq' (by omega)) hn2 hn hw hv' t2 t1 (by omega)
      have hdd : d = d2 := by
        rw [hsame.1, hsame.2] at hsum
        omega
      subst hdd
      have := ih hn hv' w hw k3
      subst this
      have e1 := hvs (d.toNat + 1) (by omega)
      have e2 := hvs2 (d.toNat + 1) (by omega)
      rw [e1, e2]
theorem bt_str (l : List Int) (h : ∀ x ∈ l, 0 ≤ x ∧ x ≤ 255) (j : Nat) (hj : j < l.length) : bt (strOfNums l) (j : Int) = l.getD j 0 := by
  have e := numsS l h
  have h2 : (numsOf (strOfNums l)).getD j 0 = bt (strOfNums l) (j : Int) := by
    unfold numsOf bt
    have hs : j < (strOfNums l).data.toList.length := by
      have := strs_size l
      have e2 : (strOfNums l).data.toList.length = (strOfNums l).size := Array.length_toList
      omega
    rw [List.getD_eq_getElem?_getD, List.getElem?_map, List.getD_eq_getElem?_getD, Int.toNat_natCast, List.getElem?_eq_getElem hs]
    rfl
  rw [← h2, e]
/-- Decode goes on behind the last hyphen. -/
theorem decode_at (s : ByteArray) (hs : s.size ≤ 120) (ha : asc s s.size) (y : Nat) (hy : lastH s s.size = (y : Int)) (h0 : 0 < y) : m_puny_Decode s = m_puny_Decode_K5 s (((y + 1 : Nat) : Int), (List.range y).map fun j => bt s ((j : Nat) : Int)) := by
  have hin := lastH_in s s.size
  have hc : iter (m_puny_Decode_L19 s) 0 = some (.inl ()) := chk_ok s (by omega) ha s.size 0 (by omega)
  have hex : (s.extract 0 y).size = y := by simp [ByteArray.size_extract]; omega
  have hbx : ∀ j : Nat, j < y → bt (s.extract 0 y) (j : Int) = bt s (j : Int) := fun j hj => by
    unfold bt
    simp only [Int.toNat_natCast, List.getD_eq_getElem?_getD, Array.getElem?_toList, ByteArray.data_extract]
    rw [Array.getElem?_extract, if_pos (by have := hin.2; have : s.data.size = s.size := rfl; omega), Nat.zero_add]
  have hru : runesL (s.extract 0 y) = (List.range y).map fun j => bt s ((j : Nat) : Int) := by
    rw [runesL_asc _ (fun j hj => by rw [hbx j (by omega)]; exact ha j (by omega)), hex]
    exact List.map_congr_left fun j hj => hbx j (List.mem_range.1 hj)
  unfold m_puny_Decode
  rw [show decide (((s.size : Nat) : Int) > 120) = false from decide_eq_false (by omega), cond_false, hc, bindS]
  simp only
  unfold m_puny_Decode_K3
  rw [lastI_eq s (by omega), bindS, show decide (lastH s s.size > 0) = true from decide_eq_true (by omega), cond_true, if_pos (by omega), hy, Int.toNat_natCast, if_pos (by omega), hru, up (by omega), bindS]
theorem decode_no (s : ByteArray) (hs : s.size ≤ 120) (ha : asc s s.size) (hy : ¬ lastH s s.size > 0) : m_puny_Decode s = m_puny_Decode_K5 s (0, []) := by
  have hc : iter (m_puny_Decode_L19 s) 0 = some (.inl ()) := chk_ok s (by omega) ha s.size 0 (by omega)
  unfold m_puny_Decode
  rw [show decide (((s.size : Nat) : Int) > 120) = false from decide_eq_false (by omega), cond_false, hc, bindS]
  simp only
  unfold m_puny_Decode_K3
  rw [lastI_eq s (by omega), bindS, show decide (lastH s s.size > 0) = false from decide_eq_false hy, cond_false, bindS]
theorem k5_run (s : ByteArray) (hs : s.size ≤ 120) (at_ : Nat) (out : List Int) (ha : at_ ≤ s.size) (ho : out.length ≤ at_) :
    (∃ l, Run 72 false 128 0 out (valsAt s at_) l ∧ m_puny_Decode_K5 s ((at_ : Int), out) = some (l, .nil)) ∨ ((∀ l, ¬ Run 72 false 128 0 out (valsAt s at_) l) ∧ ∃ e, Er.isNil e = false ∧ m_puny_Decode_K5 s ((at_ : Int), out) = some ([], e)) := by
  unfold m_puny_Decode_K5
  simp only
  rcases run_code s hs s.size at_ 72 false 128 0 out (by omega) ha (by omega) (by omega) (by omega) (by omega) (by omega) (by omega) ho with ⟨l, bb, ff, nn, ii, h1, h2⟩ | ⟨h1, e, h2, h3⟩
  · rw [h2, bindS]
    exact .inl ⟨l, h1, rfl⟩
  · rw [h3, bindS]
    exact .inr ⟨h1, e, h2, rfl⟩
/-! ### The text that is written -/
theorem dv_in (b : Int) : ∀ (n : Nat) (k d : Int), 0 ≤ d → ∀ x ∈ dv b n k d, 0 ≤ x ∧ x ≤ 35
  | 0, _, _, _, x, hx => by simp [dv] at hx
  | n + 1, k, d, h0, x, hx => by
    have hB := bnd6_in b k
    unfold dv at hx
    split at hx
    · rw [List.mem_singleton] at hx; omega
    · have m0 : 0 ≤ (d - bnd6 b k) % (36 - bnd6 b k) := Int.emod_nonneg _ (by omega)
      have m1 : (d - bnd6 b k) % (36 - bnd6 b k) < 36 - bnd6 b k := Int.emod_lt_of_pos _ (by omega)
      rcases List.mem_cons.1 hx with rfl | hx
      · omega
      · exact dv_in b n (k + 1) _ (Int.ediv_nonneg (by omega) (by omega)) x hx
theorem allV_in {l : List Int} {r : Int} : ∀ (n k : Nat) (s : EncS), k + n = l.length → EInv l r k s → ∀ x ∈ allV l r n k s, 0 ≤ x ∧ x ≤ 35
  | 0, k, s, hk, h, x, hx => by simp [allV] at hx
  | n + 1, k, s, hk, h, x, hx => by
    rw [allV] at hx
    rcases List.mem_append.1 hx with hx | hx
    · split at hx
      · exact dv_in _ _ _ _ (dOf_in h).1 x hx
      · cases hx
    · exact allV_in n (k + 1) _ (by omega) (inv_step h (by omega)) x hx
theorem foldV_in {l : List Int} : ∀ (q : List Int) (lo : Int) (s : EncS), SInv l lo s → Rest l lo q → ∀ x ∈ foldV l q s, 0 ≤ x ∧ x ≤ 35
  | [], lo, s, hs, hr, x, hx => by simp [foldV] at hx
  | r :: q, lo, s, hs, hr, x, hx => by
    rw [foldV] at hx
    rcases List.mem_append.1 hx with hx | hx
    · exact allV_in l.length 0 s (by omega) (sinv_einv hs hr) x hx
    · exact foldV_in q r _ (sinv_next hs hr) hr.head.2.2.2 x hx
theorem valsE_in {l : List Int} (hl : l.length ≤ 120) (hr : ∀ x ∈ l, rgt x = true) : ∀ x ∈ valsE l, 0 ≤ x ∧ x ≤ 35 :=
  foldV_in _ 127 _ (sinv_start l hl hr) (rest_start l)
theorem valV_sg {x : Int} (h : 0 ≤ x) (h' : x ≤ 35) : valV (sg x) = x := by
  unfold valV sg
  by_cases hx : x < 26
  · rw [if_pos hx, if_pos (by omega)]; omega
  · rw [if_neg hx, if_neg (by omega), if_neg (by omega), if_pos (by omega)]; omega
theorem bas_in {l : List Int} (hr : ∀ x ∈ l, rgt x = true) : ∀ x ∈ bas l, 0 ≤ x ∧ x ≤ 127 := fun x hx => by
  obtain ⟨h1, h2⟩ := List.mem_filter.1 hx
  have := rgt_in (hr x h1)
  simp at h2
  omega
theorem lastH_none (s : ByteArray) : ∀ n, (∀ j : Nat, j < n → bt s (j : Int) ≠ 45) → lastH s n = -1
  | 0, _ => rfl
  | n + 1, h => by
    rw [lastH, if_neg (h n (by omega))]
    exact lastH_none s n fun j hj => h j (by omega)
theorem lastH_at (s : ByteArray) (y : Nat) (hy : bt s (y : Int) = 45) : ∀ n, y < n → (∀ j : Nat, y < j → j < n → bt s (j : Int) ≠ 45) → lastH s n = (y : Int)
  | 0, h, _ => by omega
  | n + 1, h, h2 => by
    rw [lastH]
    by_cases hn : n = y
    · subst hn; rw [if_pos hy]
    · rw [if_neg (h2 n (by omega) (by omega))]
      exact lastH_at s y hy n (by omega) fun j h3 h4 => h2 j h3 (by omega)
theorem getD_map_sg (v : List Int) (j : Nat) (hj : j < v.length) : (v.map sg).getD j 0 = sg (v.getD j 0) := by
  simp [List.getD_eq_getElem?_getD, hj]
theorem enc_dec (l : List Int) (hl : l.length ≤ 120) (hr : ∀ x ∈ l, rgt x = true) (ho : (encS0 l).o.length ≤ 120) : m_puny_Decode (strOfNums (encS0 l).o) = some (l, .nil) := by
  have hb := bas_in hr
  have hv := valsE_in hl hr
  have hrun := run_enc l hl hr
  have hsg : ∀ x ∈ (valsE l).map sg, 48 ≤ x ∧ x ≤ 122 := fun x hx => by
    obtain ⟨v, h1, rfl⟩ := List.mem_map.1 hx
    have := hv v h1
    exact sg_in this.1 this.2
  have hvg : ∀ j, j < (valsE l).length → valV (sg ((valsE l).getD j 0)) = (valsE l).getD j 0 := fun j hj => by
    have := hv _ (getD_mem (l := valsE l) (d := 0) hj)
    exact valV_sg this.1 this.2
  rw [encS0_o] at ho ⊢
  rw [List.length_append, List.length_map] at ho
  have fin : ∀ (at_ : Nat), at_ = (baseO l).length → valsAt (strOfNums (baseO l ++ (valsE l).map sg)) at_ = valsE l → (bas l).length ≤ at_ → m_puny_Decode_K5 (strOfNums (baseO l ++ (valsE l).map sg)) ((at_ : Int), bas l) = some (l, .nil) := by
    intro at_ hat hva hle
    rcases k5_run (strOfNums (baseO l ++ (valsE l).map sg)) (by rw [strs_size, List.length_append, List.length_map]; omega) at_ (bas l) (by rw [strs_size, List.length_append]; omega) hle with ⟨l', h1, h2⟩ | ⟨h1, _⟩
    · rw [hva] at h1
      rw [h2, run_det h1 hrun]
    · rw [hva] at h1
      exact absurd hrun (h1 l)
  by_cases h0 : 0 < (bas l).length
  · have eB : baseO l = bas l ++ [45] := by unfold baseO; rw [if_pos h0]
    rw [eB] at ho fin ⊢
    rw [List.length_append, List.length_singleton] at ho fin
    have hby : ∀ x ∈ bas l ++ [45] ++ (valsE l).map sg, 0 ≤ x ∧ x ≤ 127 := fun x hx => by
      rcases List.mem_append.1 hx with hx | hx
      · rcases List.mem_append.1 hx with hx | hx
        · exact hb x hx
        · rw [List.mem_singleton] at hx; omega
      · have := hsg x hx; omega
    have hlen : (bas l ++ [45] ++ (valsE l).map sg).length = (bas l).length + 1 + (valsE l).length := by simp; omega
    have hbt := bt_str (bas l ++ [45] ++ (valsE l).map sg) (fun x hx => by have := hby x hx; omega)
    have hsz := strs_size (bas l ++ [45] ++ (valsE l).map sg)
    rw [hlen] at hbt hsz
    have b1 : bt (strOfNums (bas l ++ [45] ++ (valsE l).map sg)) ((bas l).length : Int) = 45 := by
      rw [hbt _ (by omega), List.append_assoc, List.getD_eq_getElem?_getD, List.getElem?_append_right (Nat.le_refl _), Nat.sub_self]
      rfl
    have b2 : ∀ j, j < (valsE l).length → bt (strOfNums (bas l ++ [45] ++ (valsE l).map sg)) (((bas l).length + 1 + j : Nat) : Int) = sg ((valsE l).getD j 0) := fun j hj => by
      rw [hbt _ (by omega), List.getD_eq_getElem?_getD, List.getElem?_append_right (by first | (simp; done) | (simp; omega)), ← getD_map_sg _ _ hj, List.getD_eq_getElem?_getD]
      congr 2
      first | (simp; done) | (simp; omega)
    have b3 : ∀ j, j < (bas l).length → bt (strOfNums (bas l ++ [45] ++ (valsE l).map sg)) (j : Int) = (bas l).getD j 0 := fun j hj => by
      rw [hbt _ (by omega), List.append_assoc, List.getD_eq_getElem?_getD, List.getElem?_append_left hj, List.getD_eq_getElem?_getD]
    have hasc : asc (strOfNums (bas l ++ [45] ++ (valsE l).map sg)) (strOfNums (bas l ++ [45] ++ (valsE l).map sg)).size := fun j hj => by
      rw [hbt j (by omega)]
      have := hby _ (getD_mem (d := 0) (show j < (bas l ++ [45] ++ (valsE l).map sg).length by omega))
      omega
    have hlast : lastH (strOfNums (bas l ++ [45] ++ (valsE l).map sg)) (strOfNums (bas l ++ [45] ++ (valsE l).map sg)).size = ((bas l).length : Int) := by
      refine lastH_at _ _ b1 _ (by omega) fun j h1 h2 => ?_
      obtain ⟨m, rfl⟩ : ∃ m, j = (bas l).length + 1 + m := ⟨j - ((bas l).length + 1), by omega⟩
      rw [b2 m (by omega)]
      have := hv _ (getD_mem (l := valsE l) (d := 0) (i := m) (by omega))
      have := sg_in this.1 this.2
      omega
    rw [decode_at _ (by omega) hasc (bas l).length hlast h0]
    have hpre : ((List.range (bas l).length).map fun j => bt (strOfNums (bas l ++ [45] ++ (valsE l).map sg)) ((j : Nat) : Int)) = bas l := by
      apply List.ext_getElem?
      intro j
      rw [List.getElem?_map]
      by_cases hj : j < (bas l).length
      · rw [List.getElem?_range hj, List.getElem?_eq_getElem hj]
        simp only [Option.map_some]
        rw [b3 j hj, List.getD_eq_getElem?_getD, List.getElem?_eq_getElem hj]; rfl
      · rw [List.getElem?_eq_none (by simp; omega), List.getElem?_eq_none (by omega)]; rfl
    rw [hpre]
    refine fin ((bas l).length + 1) rfl ?_ (by omega)
    apply List.ext_getElem?
    intro j
    unfold valsAt
    rw [List.getElem?_map, hsz, show (bas l).length + 1 + (valsE l).length - ((bas l).length + 1) = (valsE l).length by omega]
    by_cases hj : j < (valsE l).length
    · rw [List.getElem?_range hj, List.getElem?_eq_getElem hj]
      simp only [Option.map_some]
      rw [b2 j hj, hvg j hj, List.getD_eq_getElem?_getD, List.getElem?_eq_getElem hj]; rfl
    · rw [List.getElem?_eq_none (by simp; omega), List.getElem?_eq_none (by omega)]; rfl
  · have hbn : bas l = [] := List.eq_nil_of_length_eq_zero (by omega)
    have eB : baseO l = [] := by unfold baseO; rw [if_neg h0, hbn]
    rw [eB] at ho fin ⊢
    rw [List.nil_append] at fin ⊢
    have hbt := bt_str ((valsE l).map sg) (fun x hx => by have := hsg x hx; omega)
    have hsz := strs_size ((valsE l).map sg)
    rw [List.length_map] at hbt hsz
    have b2 : ∀ j, j < (valsE l).length → bt (strOfNums ((valsE l).map sg)) (j : Int) = sg ((valsE l).getD j 0) := fun j hj => by
      rw [hbt j hj, getD_map_sg _ _ hj]
    have hgd : ∀ j, j < (valsE l).length → 48 ≤ sg ((valsE l).getD j 0) ∧ sg ((valsE l).getD j 0) ≤ 122 := fun j hj => by
      have := hv _ (getD_mem (l := valsE l) (d := 0) hj)
      exact sg_in this.1 this.2
    have hasc : asc (strOfNums ((valsE l).map sg)) (strOfNums ((valsE l).map sg)).size := fun j hj => by
      rw [b2 j (by omega)]
      have := hgd j (by omega); omega
    have hlast : lastH (strOfNums ((valsE l).map sg)) (strOfNums ((valsE l).map sg)).size = -1 := by
      refine lastH_none _ _ fun j hj => ?_
      rw [b2 j (by omega)]
      have := hgd j (by omega); omega
    simp only [List.length_nil] at ho
    rw [decode_no _ (by omega) hasc (by rw [hlast]; omega), ← hbn]
    refine fin 0 rfl ?_ (by omega)
    apply List.ext_getElem?
    intro j
    unfold valsAt
    rw [List.getElem?_map, hsz, Nat.sub_zero]
    by_cases hj : j < (valsE l).length
    · rw [List.getElem?_range hj, List.getElem?_eq_getElem hj]
      simp only [Option.map_some]
      rw [Nat.zero_add, b2 j hj, hvg j hj, List.getD_eq_getElem?_getD, List.getElem?_eq_getElem hj]; rfl
    · rw [List.getElem?_eq_none (by simp; omega), List.getElem?_eq_none (by omega)]; rfl
/-! ### Small letters -/
def low (b : Int) : Int := if 65 ≤ b ∧ b ≤ 90 then b + 32 else b
theorem low_sg {b : Int} (h : 0 ≤ valV b) (h0 : 0 ≤ b) : low b = sg (valV b) := by
  unfold valV at h ⊢
  unfold low sg
  split at h <;> (try split at h) <;> (try split at h) <;> (repeat' split) <;> omega
theorem from_ref (s : ByteArray) (hs : s.size ≤ 1000) : ∀ (n k : Nat), k + n = s.size → 1 ≤ k → iter (m_eponymref06_Lower_L14 s) (fromH s k, (k : Int)) = some (fromH s s.size) := by
  intro n
  induction n with
  | zero =>
    intro k hk h1
    have hc : decide ((k : Int) < ((s.size : Nat) : Int)) = false := decide_eq_false (by omega)
    rw [show s.size = k by omega] at hc ⊢
    exact iter_done (by simp only [m_eponymref06_Lower_L14, show s.size = k by omega, Int.lt_irrefl, decide_false, cond_false])
  | succ n ih =>
    intro k hk h1
    have hc : decide ((k : Int) < ((s.size : Nat) : Int)) = true := decide_eq_true (by omega)
    rw [iter_next (s' := (fromH s (k + 1), ((k + 1 : Nat) : Int)))]
    · exact ih (k + 1) (by omega) (by omega)
    · have hf := fromH_eq s (k + 1)
      have hf0 := fromH_eq s k
      rw [lastH] at hf
      by_cases h45 : bt s (k : Int) = 45
      · rw [if_pos h45, if_pos (by omega)] at hf
        simp (disch := omega) only [m_eponymref06_Lower_L14, hc, cond_true, if_pos, beqT h45, wa1, hf]
        rfl
      · rw [if_neg h45, ← hf0] at hf
        simp (disch := omega) only [m_eponymref06_Lower_L14, hc, cond_true, if_pos, beqF h45, cond_false, wa1, hf]
theorem from_ref0 (s : ByteArray) (hs : s.size ≤ 1000) : iter (m_eponymref06_Lower_L14 s) ((0 : Int), (1 : Int)) = some (fromH s s.size) := by
  by_cases h : s.size = 0
  · rw [h]
    exact iter_done (by simp only [m_eponymref06_Lower_L14, h]; rfl)
  · have h1 : fromH s 1 = 0 := by
      rw [fromH_eq, if_neg]
      have := (lastH_in s 1).2
      omega
    have := from_ref s hs (s.size - 1) 1 (by omega) (Nat.le_refl _)
    rw [h1] at this
    exact this
/-- Bytes from a place on. -/
def btsAt (s : ByteArray) (at_ : Nat) : List Int := (List.range (s.size - at_)).map fun j => bt s ((at_ + j : Nat) : Int)
theorem btsAt_cons (s : ByteArray) (at_ : Nat) (h : at_ < s.size) : btsAt s at_ = bt s (at_ : Int) :: btsAt s (at_ + 1) := by
  unfold btsAt
  rw [show s.size - at_ = (s.size - (at_ + 1)) + 1 by omega, List.range_succ_eq_map, List.map_cons, List.map_map]
  congr 1
  refine List.map_congr_left fun j _ => ?_
  simp only [Function.comp]
  rw [show at_ + (j + 1) = at_ + 1 + j by omega]
theorem low_loop (s : ByteArray) (hs : s.size ≤ 1000) : ∀ (n k : Nat) (t : List Int), k + n = s.size → t.length ≤ 1000 + k → iter (m_eponymref06_Lower_L7 s) (strOfNums t, (k : Int)) = some (strOfNums (t ++ (btsAt s k).map low)) := by
  intro n
  induction n with
  | zero =>
    intro k t hk ht
    have hc : decide ((k : Int) < ((s.size : Nat) : Int)) = false := decide_eq_false (by omega)
    have : btsAt s k = [] := by unfold btsAt; rw [show s.size - k = 0 by omega]; rfl
    rw [this]
    exact iter_done (by simp only [m_eponymref06_Lower_L7, hc, cond_false, List.map_nil, List.append_nil])
  | succ n ih =>
    intro k t hk ht
    have hc : decide ((k : Int) < ((s.size : Nat) : Int)) = true := decide_eq_true (by omega)
    have hb := bt_in s (k : Int)
    rw [iter_next (s' := (strOfNums (t ++ [low (bt s (k : Int))]), ((k + 1 : Nat) : Int)))]
    · rw [ih (k + 1) _ (by omega) (by simp; omega), btsAt_cons s k (by omega)]
      simp
    · unfold low
      by_cases h1 : bt s (k : Int) ≥ 65
      · by_cases h2 : bt s (k : Int) ≤ 90
        · rw [if_pos ⟨h1, h2⟩]
          simp (disch := omega) only [m_eponymref06_Lower_L7, hc, cond_true, if_pos, decide_eq_true h1, decide_eq_true h2, bindS, m_eponymref06_Lower_K10, w8, strs_size, List.length_singleton, strs_app, wa1]
        · rw [if_neg (fun h => h2 h.2)]
          simp (disch := omega) only [m_eponymref06_Lower_L7, hc, cond_true, if_pos, decide_eq_true h1, decide_eq_false h2, cond_false, bindS, m_eponymref06_Lower_K10, strs_size, List.length_singleton, strs_app, wa1]
      · rw [if_neg (fun h => h1 h.1)]
        simp (disch := omega) only [m_eponymref06_Lower_L7, hc, cond_true, if_pos, decide_eq_false h1, cond_false, bindS, m_eponymref06_Lower_K10, strs_size, List.length_singleton, strs_app, wa1]
theorem ext_str (s : ByteArray) (k : Nat) (hk : k ≤ s.size) : s.extract 0 k = strOfNums ((List.range k).map fun j => bt s ((j : Nat) : Int)) := by
  apply ByteArray.ext
  apply Array.toList_inj.1
  have e1 : (s.extract 0 k).data.toList = s.data.toList.take k := by simp [ByteArray.data_extract]
  have e2 : (strOfNums ((List.range k).map fun j => bt s ((j : Nat) : Int))).data.toList = ((List.range k).map fun j => bt s ((j : Nat) : Int)).map fun n => UInt8.ofNat n.toNat := rfl
  have hl : s.data.toList.length = s.size := Array.length_toList
  rw [e1, e2, List.map_map]
  apply List.ext_getElem?
  intro j
  by_cases hj : j < k
  · rw [List.getElem?_take, if_pos hj, List.getElem?_map, List.getElem?_range hj, List.getElem?_eq_getElem (by omega)]
    simp only [Option.map_some, Function.comp]
    unfold bt
    rw [Int.toNat_natCast, List.getD_eq_getElem?_getD, List.getElem?_eq_getElem (by omega)]
    simp
  · rw [List.getElem?_eq_none (by simp; omega), List.getElem?_eq_none (by simp; omega)]
theorem lower_eq (s : ByteArray) (hs : s.size ≤ 120) (y : Nat) (hy : fromH s s.size = (y : Int)) (hys : y ≤ s.size) : m_eponymref06_Lower s = some (strOfNums (((List.range y).map fun j => bt s ((j : Nat) : Int)) ++ (btsAt s y).map low)) := by
  unfold m_eponymref06_Lower
  rw [from_ref0 s (by omega), bindS, hy]
  unfold m_eponymref06_Lower_K2
  rw [if_pos (by omega), Int.toNat_natCast, ext_str s y hys, low_loop s (by omega) (s.size - y) y _ (by omega) (by first | (simp; done) | (simp; omega)), bindS]
/-! ### Whole -/
theorem run_rgt {b : Int} {f : Bool} {n i : Int} {out vs l : List Int} (h : Run b f n i out vs l) : (∀ x ∈ out, rgt x = true) → ∀ x ∈ l, rgt x = true := by
  induction h with
  | nil => exact fun h => h
  | step h1 h2 h3 ih =>
    intro ho
    refine ih fun x hx => ?_
    rcases List.mem_append.1 hx with hx | hx
    · exact ho x (List.mem_of_mem_take hx)
    · rcases List.mem_cons.1 hx with rfl | hx
      · exact h2
      · exact ho x (List.mem_of_mem_drop hx)
theorem run_short {b : Int} {f : Bool} {n i : Int} {out vs l : List Int} (h : Run b f n i out vs l) : l.length ≤ out.length + vs.length := by
  induction h with
  | nil => simp
  | step h1 h2 h3 ih =>
    have := (rd_sub h1).2
    simp at ih
    omega
theorem run_nonneg {b : Int} {f : Bool} {n i : Int} {out vs l : List Int} (h : Run b f n i out vs l) : ∀ v ∈ vs, 0 ≤ v := by
  induction h with
  | nil => intro v hv; cases hv
  | step h1 h2 h3 ih =>
    intro v hv
    rcases rd_nonneg h1 v hv with h | h
    · exact ih v h
    · exact h
theorem at_start (l : List Int) (h : ∀ x ∈ l, x < 128) : At 128 0 l := by
  refine ⟨Int.le_refl _, by omega, fun x hx => by have := h x hx; omega, fun j h1 h2 => ?_⟩
  have := h _ (getD_mem (l := l) (d := 0) h2)
  omega
theorem there_of (s : ByteArray) (hs : s.size ≤ 120) (at_ : Nat) (hat : at_ ≤ s.size) (pre l : List Int) (hp : ∀ x ∈ pre, 0 ≤ x ∧ x < 128) (hpl : pre.length ≤ at_) (hrun : Run 72 false 128 0 pre (valsAt s at_) l)
    (hB : (if 0 < pre.length then pre ++ [45] else pre) = (List.range at_).map fun j => bt s ((j : Nat) : Int)) : encA l = (strOfNums (((List.range at_).map fun j => bt s ((j : Nat) : Int)) ++ (btsAt s at_).map low), .nil) ∧ ∀ x ∈ l, rgt x = true := by
  have hA := at_start pre fun x hx => (hp x hx).2
  have hle := valsAt_le s at_
  have hrg := run_rgt hrun fun x hx => by
    have := hp x hx
    unfold rgt
    exact decide_eq_true (by omega)
  have hll := run_short hrun
  rw [valsAt_len] at hll
  have hbas : bas l = pre := by
    have e := run_below hrun hA hle 128 (Int.le_refl _)
    rw [filt_all (l := pre) fun x hx => decide_eq_true (hp x hx).2] at e
    exact e
  have hr2 := run_enc l (by omega) hrg
  rw [hbas] at hr2
  have hv := valsE_in (show l.length ≤ 120 by omega) hrg
  have hval := run_inj hrun hA hle (valsE l) (fun v hx => (hv v hx).2) hr2
  have hnn := run_nonneg hrun
  have hmap : (valsAt s at_).map sg = (btsAt s at_).map low := by
    unfold valsAt btsAt at *
    rw [List.map_map, List.map_map]
    refine List.map_congr_left fun j hj => ?_
    have := hnn (valV (bt s ((at_ + j : Nat) : Int))) (List.mem_map.2 ⟨j, hj, rfl⟩)
    exact (low_sg this (bt_in s _).1).symm
  have hO : (encS0 l).o = ((List.range at_).map fun j => bt s ((j : Nat) : Int)) ++ (btsAt s at_).map low := by
    rw [encS0_o, ← hval, hmap]
    unfold baseO
    rw [hbas, hB]
  have hlen : (encS0 l).o.length ≤ 120 := by
    rw [hO]
    unfold btsAt
    simp; omega
  refine ⟨?_, hrg⟩
  unfold encA
  rw [if_neg (by omega), if_neg (by omega), hO]
theorem there (haw : m_eponymlaw06_awake = some true) (s : ByteArray) : m_eponymlaw06_PunyThere s = some true := by
  unfold m_eponymlaw06_PunyThere
  rw [haw, bindS, Bool.not_true, cond_false]
  by_cases hL : 120 < s.size
  · rw [show decide (((s.size : Nat) : Int) > 120) = true from decide_eq_true (by omega), cond_true]
  rw [show decide (((s.size : Nat) : Int) > 120) = false from decide_eq_false (by omega), cond_false]
  have fin : ∀ (l : List Int) (at_ : Nat) (pre : List Int), m_puny_Decode s = some (l, .nil) → fromH s s.size = (at_ : Int) → at_ ≤ s.size → (∀ x ∈ pre, 0 ≤ x ∧ x < 128) → pre.length ≤ at_ → Run 72 false 128 0 pre (valsAt s at_) l →
      (if 0 < pre.length then pre ++ [45] else pre) = ((List.range at_).map fun j => bt s ((j : Nat) : Int)) →
      (Option.bind (m_puny_Decode s) fun y2 => bif (!y2.2.isNil) then some (((y2.1.length : Nat) : Int) == (0 : Int)) else Option.bind (m_puny_Encode y2.1) fun y3 => bif y3.2.isNil then Option.bind (m_eponymref06_Lower s) fun y4 => some (y3.1.toList == y4.toList) else some false) = some true := by
    intro l at_ pre hd hf hat hp hpl hrun hB
    obtain ⟨h1, h2⟩ := there_of s (by omega) at_ hat pre l hp hpl hrun hB
    have hll := run_short hrun
    rw [valsAt_len] at hll
    rw [hd, bindS]
    simp only [Er.isNil, Bool.not_true, cond_false]
    rcases encode_code l (by omega) with ⟨_, g2⟩ | ⟨j, g1, g2, _⟩
    · rw [g2, bindS, h1]
      simp only [Er.isNil, cond_true]
      rw [lower_eq s (by omega) at_ hf hat, bindS, beq_self_eq_true]
    · have := h2 _ (getD_mem (l := l) (d := 0) g1)
      rw [g2] at this; cases this
  rcases check_ref s (by omega) s.size 0 (by omega) (fun j hj => absurd hj (Nat.not_lt_zero _)) with ⟨ha, hr⟩ | ⟨j, hj, ha, hb, hr⟩
  · have hin := lastH_in s s.size
    by_cases hp : lastH s s.size > 0
    · obtain ⟨y, hyy⟩ : ∃ y : Nat, lastH s s.size = (y : Int) := ⟨(lastH s s.size).toNat, by omega⟩
      have hd := decode_at s (by omega) ha y hyy (by omega)
      have hfr : fromH s s.size = ((y + 1 : Nat) : Int) := by rw [fromH_eq, if_pos hp, hyy]; rfl
      have h45 : bt s (y : Int) = 45 := by
        have key : ∀ n : Nat, lastH s n = (y : Int) → bt s (y : Int) = 45 := by
          intro n
          induction n with
          | zero => intro h; have h2 : (-1 : Int) = (y : Int) := h; omega
          | succ n ih =>
            intro h
            rw [lastH] at h
            split at h
            · rename_i hb; rw [← h]; exact hb
            · exact ih h
        exact key _ hyy
      rcases k5_run s (by omega) (y + 1) ((List.range y).map fun j => bt s ((j : Nat) : Int)) (by omega) (by simp) with ⟨l, h1, h2⟩ | ⟨_, e, h1, h2⟩
      · refine fin l (y + 1) _ (hd.trans h2) hfr (by omega) (fun x hx => ?_) (by simp) h1 ?_
        · obtain ⟨j, hj, rfl⟩ := List.mem_map.1 hx
          have := List.mem_range.1 hj
          exact ⟨(bt_in s _).1, ha j (by omega)⟩
        · rw [if_pos (by rw [List.length_map, List.length_range]; omega), List.range_succ, List.map_append]
          simp [h45]
      · rw [hd.trans h2, bindS]
        simp only [h1, Bool.not_false, cond_true]
        rfl
    · have hd := decode_no s (by omega) ha hp
      have hfr : fromH s s.size = ((0 : Nat) : Int) := by rw [fromH_eq, if_neg hp]; rfl
      rcases k5_run s (by omega) 0 [] (by omega) (by simp) with ⟨l, h1, h2⟩ | ⟨_, e, h1, h2⟩
      · exact fin l 0 [] (hd.trans h2) hfr (by omega) (fun x hx => by cases hx) (by simp) h1 rfl
      · rw [hd.trans h2, bindS]
        simp only [h1, Bool.not_false, cond_true]
        rfl
  · have hD : m_puny_Decode s = some ([], .box 62 (j : Int) (.sent 5)) := by
      unfold m_puny_Decode
      rw [show decide (((s.size : Nat) : Int) > 120) = false from decide_eq_false (by omega), cond_false, show iter (m_puny_Decode_L19 s) 0 = _ from chk_bad s (by omega) j hj ha hb j 0 (by omega), bindS]
    rw [hD, bindS]
    rfl
end Go.Proofs.YtclhniadffljdaaDoor
