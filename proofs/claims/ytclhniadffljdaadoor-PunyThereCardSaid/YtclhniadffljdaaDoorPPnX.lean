/- Punycode: what the document's example says. No condition. -/
import Derived.Test.YtclhniadffljdaaDoorPPnG
namespace Go.Proofs.YtclhniadffljdaaDoor
open Go Go.SE
set_option linter.unusedVariables false
set_option linter.unusedSimpArgs false
set_option maxRecDepth 100000
def ex6 : List Int := [98, 252, 99, 104, 101, 114]
theorem pdq_of {l r : List Int} {a b lim : Int} (h : ∀ rec_, m_slices_pdqsortOrdered_rune_own_body rec_ l a b lim = some r) : m_slices_pdqsortOrdered_rune_own l a b lim = some r := by
  have hn : ∀ n, m_slices_pdqsortOrdered_rune_own_n (n + 1) l a b lim = some r := fun n => h _
  have hx : ∃ n, (m_slices_pdqsortOrdered_rune_own_n n l a b lim).isSome = true := ⟨1, by rw [hn]; rfl⟩
  unfold m_slices_pdqsortOrdered_rune_own
  rw [dif_pos hx]
  have hc := Classical.choose_spec hx
  generalize Classical.choose hx = n at hc ⊢
  cases n with
  | zero => cases hc
  | succ n => exact hn n
theorem sort1 (x : Int) : m_slices_Sort_rune_rune_own [x] = some [x] := by
  have hl : m_math_bits_Len (IntKind.wrap .u64 ((([x] : List Int).length : Nat) : Int)) = some 1 := by show m_math_bits_Len (IntKind.wrap .u64 1) = some 1; kernel_rfl
  have hi : m_slices_insertionSortOrdered_rune_own [x] 0 1 = some [x] := by
    unfold m_slices_insertionSortOrdered_rune_own
    rw [iter_done (x := [x]) rfl]
    rfl
  have hp : m_slices_pdqsortOrdered_rune_own [x] 0 1 1 = some [x] := pdq_of fun rec_ => by
    unfold m_slices_pdqsortOrdered_rune_own_body
    rw [iter_done (x := [x]) (by
      unfold m_slices_pdqsortOrdered_rune_own_L4
      have : (decide (IntKind.wrap .i64 (1 - 0) ≤ 12)) = true := by decide
      simp only [this, cond_true]
      rw [hi]
      rfl)]
    rfl
  unfold m_slices_Sort_rune_rune_own
  rw [hl, bind_some']
  show Option.bind (m_slices_pdqsortOrdered_rune_own [x] 0 1 1) _ = _
  rw [hp]
  rfl
theorem bias745 : m_puny_Bias 745 6 true = some 0 := by
  unfold m_puny_Bias
  rw [within_eq, within_eq, bind_some', bind_some']
  show m_puny_Bias_K4 6 1 = some 0
  unfold m_puny_Bias_K4
  rw [if_pos (by decide), iter_done (x := (1, 0)) (by kernel_rfl)]
  kernel_rfl
theorem put745 (out : List Int) : out = [98, 99, 104, 101, 114, 45] → m_puny_encoder_put_own 72 false true out 128 0 5 252 1 = some (0, true, true, [98, 99, 104, 101, 114, 45, 107, 118, 97], 252, 2, 6) := by
  rintro rfl
  unfold m_puny_encoder_put_own
  have hd : m_puny_bias_digits_own 72 false true [98, 99, 104, 101, 114, 45] 128 0 5 745 = some (72, false, true, 128, 0, 5, strOfNums [107, 118, 97]) := by
    unfold m_puny_bias_digits_own
    rw [iter_of (k := 4) (x := (72, false, true, 128, 0, 5, strOfNums [107, 118, 97])) (by kernel_rfl)]
    rfl
  rw [show IntKind.wrap .i64 ((IntKind.wrap .i64 ((IntKind.wrap .i64 ((IntKind.wrap .i64 ((IntKind.wrap .i64 252) - (IntKind.wrap .i64 128))) * (IntKind.wrap .i64 (5 + (1 : Int))))) + 1)) - 0) = 745 by decide, hd, bind_some']
  rw [show m_strings_Builder_WriteString_own 72 false true [98, 99, 104, 101, 114, 45] 128 0 5 (strOfNums [107, 118, 97]) = some (72, false, true, [98, 99, 104, 101, 114, 45, 107, 118, 97], 128, 0, 5, 3) by kernel_rfl, bind_some']
  unfold m_puny_bias_adapt_own
  rw [show IntKind.wrap .i64 (((72, false, true, [98, 99, 104, 101, 114, 45, 107, 118, 97], 128, 0, 5, 3) : Int × Bool × Bool × List Int × Int × Int × Int × Int).2.2.2.2.2.2.1 + (1 : Int)) = 6 by decide]
  simp only [Bool.not_false]
  rw [bias745]
  rfl
theorem all252 : m_puny_encoder_all_own 72 false true [98, 99, 104, 101, 114, 45] 128 0 5 ex6 252 = some (0, true, true, [98, 99, 104, 101, 114, 45, 107, 118, 97], 252, 2, 6) := by
  unfold m_puny_encoder_all_own
  rw [iter_next (s' := (72, false, true, [98, 99, 104, 101, 114, 45], 128, 0, 5, 1, 1)) (by kernel_rfl)]
  have h1 : m_puny_encoder_all_own_L4 ex6 252 (72, false, true, [98, 99, 104, 101, 114, 45], 128, 0, 5, 1, 1) = some (.next (0, true, true, [98, 99, 104, 101, 114, 45, 107, 118, 97], 252, 2, 6, 2, 2)) := by
    unfold m_puny_encoder_all_own_L4
    simp only
    rw [show decide ((1 : Int) < ((ex6.length : Nat) : Int)) = true by decide, cond_true, if_pos (by decide), show (ex6.getD (1 : Int).toNat 0 == 252) = true by decide, cond_true, put745 _ rfl]
    kernel_rfl
  rw [iter_next h1, iter_of (k := 5) (x := (0, true, true, [98, 99, 104, 101, 114, 45, 107, 118, 97], 252, 2, 6)) (by kernel_rfl)]
  rfl
theorem enc6 : m_puny_Encode ex6 = some (strOfNums [98, 99, 104, 101, 114, 45, 107, 118, 97], Er.nil) := by
  unfold m_puny_Encode
  rw [iter_of (k := 7) (x := .inl ()) (by kernel_rfl), bind_some']
  show m_puny_Encode_K2 ex6 () = _
  unfold m_puny_Encode_K2
  rw [show decide (((ex6.length : Nat) : Int) > (120 : Int)) = false by decide, cond_false, iter_of (k := 7) (x := (72, false, true, [98, 99, 104, 101, 114], 128, 0, 5, [252])) (by kernel_rfl), bind_some']
  unfold m_puny_Encode_K5
  rw [show decide (((72, false, true, [98, 99, 104, 101, 114], 128, 0, 5, [252]) : Int × Bool × Bool × List Int × Int × Int × Int × List Int).2.2.2.2.2.2.1 > (0 : Int)) = true by decide, cond_true]
  rw [show m_strings_Builder_WriteByte_own 72 false true [98, 99, 104, 101, 114] 128 0 5 45 = some (72, false, true, [98, 99, 104, 101, 114, 45], 128, 0, 5, Er.nil) by kernel_rfl, bind_some', bind_some']
  unfold m_puny_Encode_K7
  rw [sort1, bind_some', if_pos rfl]
  rw [show m_slices_Compact_rune_rune_own [252] = some ([252], 1) by kernel_rfl, bind_some', if_pos rfl]
  have h1 : m_puny_Encode_L17 ex6 ([252], 1) (72, false, true, [98, 99, 104, 101, 114, 45], 128, 0, 5, 0) = some (.next (0, true, true, [98, 99, 104, 101, 114, 45, 107, 118, 97], 252, 2, 6, 1)) := by
    unfold m_puny_Encode_L17
    simp only
    rw [show decide ((0 : Int) < (((1 : Nat)) : Int)) = true by decide, cond_true, if_pos (by decide), show ([252] : List Int).getD (0 : Int).toNat 0 = 252 by decide, all252]
    kernel_rfl
  rw [iter_next h1, iter_done (x := (0, true, true, [98, 99, 104, 101, 114, 45, 107, 118, 97], 252, 2, 6)) (by kernel_rfl), bind_some']
  rfl
theorem dec2 : m_puny_Decode (ByteArray.mk #[107, 118]) = some ([], Er.box 62 2 (Er.sent 9)) := by
  unfold m_puny_Decode
  rw [show decide ((((ByteArray.mk #[107, 118]).size : Nat) : Int) > (120 : Int)) = false by decide, cond_false, iter_of (k := 3) (x := .inl ()) (by kernel_rfl), bind_some']
  show m_puny_Decode_K3 (ByteArray.mk #[107, 118]) () = _
  unfold m_puny_Decode_K3
  have hl : m_strings_LastIndexByte (ByteArray.mk #[107, 118]) 45 = some (-1) := by
    unfold m_strings_LastIndexByte m_internal_bytealg_LastIndexByteString
    rw [iter_of (k := 3) (x := .inl ()) (by kernel_rfl)]
    rfl
  rw [hl, bind_some', show decide ((-1 : Int) > 0) = false by decide, cond_false, bind_some']
  unfold m_puny_Decode_K5
  have hn : m_puny_decoder_number_own 72 false (ByteArray.mk #[107, 118]) 0 128 0 [] = some (72, false, ByteArray.mk #[107, 118], 2, 128, 0, 0, Er.box 62 2 (Er.sent 9)) := by
    unfold m_puny_decoder_number_own
    rw [iter_of (k := 3) (x := (72, false, ByteArray.mk #[107, 118], 2, 128, 0, 0, Er.box 62 2 (Er.sent 9))) (by kernel_rfl)]
    rfl
  have h1 : m_puny_Decode_L10 (ByteArray.mk #[107, 118]) (72, false, ByteArray.mk #[107, 118], 0, 128, 0, []) = some (.done (.inr ([], Er.box 62 2 (Er.sent 9)))) := by
    unfold m_puny_Decode_L10
    simp only
    rw [show decide ((0 : Int) < (((ByteArray.mk #[107, 118]).size : Nat) : Int)) = true by decide, cond_true]
    unfold m_puny_decoder_next_own
    rw [hn]
    rfl
  simp only
  rw [iter_done h1, bind_some']
theorem awake06 : m_eponymlaw06_awake = some true := by
  unfold m_eponymlaw06_awake
  rw [show m_puny_Encode [98, 252, 99, 104, 101, 114] = _ from enc6, bind_some', dec2, bind_some']
  kernel_rfl
end Go.Proofs.YtclhniadffljdaaDoor
