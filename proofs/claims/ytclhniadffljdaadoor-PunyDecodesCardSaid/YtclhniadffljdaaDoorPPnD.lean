/- Punycode read: the code's loops and the document's, side by side. No condition. -/
import Derived.Test.YtclhniadffljdaaDoorPPnA
namespace Go.Proofs.YtclhniadffljdaaDoor
open Go Go.SE
set_option linter.unusedVariables false
set_option linter.unusedSimpArgs false
/-- A digit's number. -/
def valV (b : Int) : Int := if 97 ≤ b ∧ b ≤ 122 then b - 97 else if 65 ≤ b ∧ b ≤ 90 then b - 65 else if 48 ≤ b ∧ b ≤ 57 then b - 22 else -1
theorem value_eq {b : Int} (h : 0 ≤ b) (h' : b ≤ 255) : m_puny_value b = some (valV b) := by
  unfold m_puny_value m_puny_value_K2 m_puny_value_K4 m_puny_value_K6 valV
  by_cases h1 : 97 ≤ b
  · by_cases h2 : b ≤ 122
    · simp [h1, h2, w8 (x := b - 97) (by omega) (by omega), w64 (x := b - 97) (by omega) (by omega)]
    · have h3 : ¬ b ≤ 90 := by omega
      have h4 : ¬ b ≤ 57 := by omega
      have h5 : 65 ≤ b := by omega
      have h6 : 48 ≤ b := by omega
      simp [h1, h2, h3, h4, h5, h6]
  · by_cases h2 : 65 ≤ b
    · by_cases h3 : b ≤ 90
      · simp [h1, h2, h3, w8 (x := b - 65) (by omega) (by omega), w64 (x := b - 65) (by omega) (by omega)]
      · have h4 : ¬ b ≤ 57 := by omega
        have h6 : 48 ≤ b := by omega
        simp [h1, h2, h3, h4, h6]
    · by_cases h3 : 48 ≤ b
      · by_cases h4 : b ≤ 57
        · simp [h1, h2, h3, h4, w8 (x := b - 48) (by omega) (by omega), w64 (x := b - 48) (by omega) (by omega), w64 (x := b - 48 + 26) (by omega) (by omega)]
          omega
        · simp [h1, h2, h3, h4]
      · simp [h1, h2, h3]
theorem value_ref {b : Int} (h : 0 ≤ b) (h' : b ≤ 255) : m_eponymref06_value b = some (valV b) := by
  unfold m_eponymref06_value m_eponymref06_value_K2 m_eponymref06_value_K4 m_eponymref06_value_K6 valV
  rw [w64 (x := b) (by omega) (by omega), w64 (x := b - 97) (by omega) (by omega), w64 (x := b - 65) (by omega) (by omega), w64 (x := b - 22) (by omega) (by omega)]
  by_cases h1 : 97 ≤ b
  · by_cases h2 : b ≤ 122
    · simp [h1, h2]
    · have h3 : ¬ b ≤ 90 := by omega
      have h4 : ¬ b ≤ 57 := by omega
      have h5 : 65 ≤ b := by omega
      have h6 : 48 ≤ b := by omega
      simp [h1, h2, h3, h4, h5, h6]
  · by_cases h2 : 65 ≤ b
    · by_cases h3 : b ≤ 90
      · simp [h1, h2, h3]
      · have h4 : ¬ b ≤ 57 := by omega
        have h6 : 48 ≤ b := by omega
        simp [h1, h2, h3, h4, h6]
    · by_cases h3 : 48 ≤ b
      · by_cases h4 : b ≤ 57
        · simp [h1, h2, h3, h4]
        · simp [h1, h2, h3, h4]
      · simp [h1, h2, h3]
theorem valV_in (b : Int) : -1 ≤ valV b ∧ valV b ≤ 35 := by unfold valV; split <;> (try split) <;> (try split) <;> omega
theorem bt_in (s : ByteArray) (i : Int) : 0 ≤ bt s i ∧ bt s i ≤ 255 := by
  unfold bt
  have := (s.data.toList.getD i.toNat 0).toNat_lt
  omega
/-- The bound of a digit, by whatever bias. -/
def bw (b k : Int) : Int := wi (IntKind.wrap .i64 ((IntKind.wrap .i64 (36 * (IntKind.wrap .i64 (k + 1)))) - b)) 1 26
theorem bw_in (b k : Int) : 1 ≤ bw b k ∧ bw b k ≤ 26 := wi_in (by omega)
theorem bw_ref (b k : Int) : m_eponymref06_bound k b = some (bw b k) := by unfold m_eponymref06_bound; rw [within_ref _ _ _ (by omega)]; rfl
/-- May a number be a rune? -/
def rgt (v : Int) : Bool := decide (0 ≤ v ∧ v ≤ 1114111 ∧ ¬ (55296 ≤ v ∧ v ≤ 57343))
theorem rgt_code (v : Int) : m_utf_Right v = some (rgt v) := by
  unfold m_utf_Right rgt
  simp only [cond_ite, decide_eq_true_eq]
  repeat' split
  all_goals (congr 1; first | rfl | (rw [Bool.eq_iff_iff]; simp; omega) | (symm; simp; omega))
theorem rgt_ref (v : Int) : m_eponymref01_Right v = some (rgt v) := by
  unfold m_eponymref01_Right rgt
  simp only [cond_ite, decide_eq_true_eq]
  repeat' split
  all_goals (congr 1; first | rfl | (rw [Bool.eq_iff_iff]; simp; omega) | (symm; simp; omega))
/-- What is behind a number, in the code: next's rest, and the loop. -/
noncomputable def contC (s : ByteArray) (out : List Int) (y1 : Int × Bool × ByteArray × Int × Int × Int × Int × Er) : Option (Sum (Int × Bool × ByteArray × Int × Int × Int × (List Int)) ((List Int) × Er)) :=
  Option.bind (
    bif (!y1.2.2.2.2.2.2.2.isNil) then
      some (y1.1, y1.2.1, y1.2.2.1, y1.2.2.2.1, y1.2.2.2.2.1, y1.2.2.2.2.2.1, out, y1.2.2.2.2.2.2.2)
    else
      Option.bind (m_puny_bias_adapt_own2 y1.1 y1.2.1 y1.2.2.1 y1.2.2.2.1 y1.2.2.2.2.1 y1.2.2.2.2.2.1 out y1.2.2.2.2.2.2.1 (IntKind.wrap .i64 (((out.length : Nat) : Int) + (1 : Int)))) fun y2 =>
      if (IntKind.wrap .i64 (((out.length : Nat) : Int) + (1 : Int))) ≠ 0 then
        if (IntKind.wrap .i64 (((out.length : Nat) : Int) + (1 : Int))) ≠ 0 then
          Option.bind (
            bif (decide ((IntKind.wrap .i64 (y2.2.2.2.2.1 + (IntKind.wrap .i64 (Int.tdiv (IntKind.wrap .i64 (y2.2.2.2.2.2 + y1.2.2.2.2.2.2.1)) (IntKind.wrap .i64 (((out.length : Nat) : Int) + (1 : Int))))))) > (1114111 : Int))) then
              some true
            else
              Option.bind (m_utf_Right (IntKind.wrap .i32 (IntKind.wrap .i64 (y2.2.2.2.2.1 + (IntKind.wrap .i64 (Int.tdiv (IntKind.wrap .i64 (y2.2.2.2.2.2 + y1.2.2.2.2.2.2.1)) (IntKind.wrap .i64 (((out.length : Nat) : Int) + (1 : Int))))))))) fun y7 =>
              some (!y7) : Option Bool) fun s3 =>
          m_puny_decoder_next_own_K4 out y1 y2 s3
        else none
      else none : Option (Int × Bool × ByteArray × Int × Int × Int × (List Int) × Er)) fun y12 =>
  bif (!y12.2.2.2.2.2.2.2.isNil) then some (.inr ([], y12.2.2.2.2.2.2.2)) else iter (m_puny_Decode_L10 s) (y12.1, y12.2.1, y12.2.2.1, y12.2.2.2.1, y12.2.2.2.2.1, y12.2.2.2.2.2.1, y12.2.2.2.2.2.2.1)
theorem iter_bindN {S X Y : Type} {body : S → Option (Stp S X)} {st : S} {m : Option Y} {g : Y → Stp S X} (h : body st = Option.bind m fun y => some (g y)) : iter body st = Option.bind m fun y => match g y with | .next s' => iter body s' | .done x => some x := by
  rw [iter_step, h]
  cases m with
  | none => rfl
  | some y => simp only [Option.bind]; cases g y <;> rfl
theorem group (s : ByteArray) (b : Int) (f : Bool) (at_ : Nat) (n i : Int) (out : List Int) (h : at_ < s.size) :
    iter (m_puny_Decode_L10 s) (b, f, s, (at_ : Int), n, i, out) = Option.bind (iter (m_puny_decoder_number_own_L3 out) (b, f, s, (at_ : Int), n, i, 0, 1, 0)) (contC s out) := by
  have hb : m_puny_Decode_L10 s (b, f, s, (at_ : Int), n, i, out) = Option.bind (m_puny_decoder_next_own b f s at_ n i out) fun y12 => some (bif (!y12.2.2.2.2.2.2.2.isNil) then .done (.inr ([], y12.2.2.2.2.2.2.2)) else .next (y12.1, y12.2.1, y12.2.2.1, y12.2.2.2.1, y12.2.2.2.2.1, y12.2.2.2.2.2.1, y12.2.2.2.2.2.2.1)) := by
    unfold m_puny_Decode_L10
    simp only
    rw [show decide ((at_ : Int) < ((s.size : Nat) : Int)) = true by simp; omega, cond_true]
    congr 1
    funext y12
    cases y12.2.2.2.2.2.2.2.isNil <;> rfl
  rw [iter_bindN hb]
  unfold m_puny_decoder_next_own m_puny_decoder_number_own
  cases hn : iter (m_puny_decoder_number_own_L3 out) (b, f, s, (at_ : Int), n, i, 0, 1, 0) with
  | none => rfl
  | some y1 =>
    simp only [Option.bind]
    unfold contC
    refine congrArg (Option.bind _) (funext fun y12 => ?_)
    cases y12.2.2.2.2.2.2.2.isNil <;> rfl
end Go.Proofs.YtclhniadffljdaaDoor
