/- Bits of plain numbers: the machine's 'and', 'or' on whole numbers of 64 bits. No condition. -/
import Derived.Test.YtjhgaacecfmadaaDoorP0
namespace Go.Proofs.YtjhgaacecfmadaaDoor
open Go Go.SE
set_option linter.unusedVariables false
set_option linter.unusedSimpArgs false
theorem ofInt64 {a : Nat} : BitVec.ofInt 64 (a : Int) = BitVec.ofNat 64 a := BitVec.ofInt_natCast ..
theorem ior_nat {a b : Nat} (ha : a < 18446744073709551616) (hb : b < 18446744073709551616) : ior .u64 (a : Int) (b : Int) = ((a ||| b : Nat) : Int) := by
  show IntKind.wrap .u64 (((BitVec.ofInt 64 (a : Int) ||| BitVec.ofInt 64 (b : Int)).toNat : Nat) : Int) = _
  rw [ofInt64, ofInt64, BitVec.toNat_or, BitVec.toNat_ofNat, BitVec.toNat_ofNat, Nat.mod_eq_of_lt (by simpa using ha), Nat.mod_eq_of_lt (by simpa using hb)]
  have h : a ||| b < 2 ^ 64 := Nat.or_lt_two_pow (by simpa using ha) (by simpa using hb)
  rw [wu64 (by omega) (by omega)]
theorem iand_one {a : Nat} (ha : a < 18446744073709551616) : iand .u64 (a : Int) 1 = ((a &&& 1 : Nat) : Int) := by
  show IntKind.wrap .u64 (((BitVec.ofInt 64 (a : Int) &&& BitVec.ofInt 64 ((1 : Nat) : Int)).toNat : Nat) : Int) = _
  rw [ofInt64, ofInt64, BitVec.toNat_and, BitVec.toNat_ofNat, BitVec.toNat_ofNat, Nat.mod_eq_of_lt (by simpa using ha)]
  have h : a &&& 1 ≤ 1 := Nat.and_le_right
  rw [show (1 % 2 ^ 64) = 1 from rfl, wu64 (by omega) (by omega)]
theorem fdiv_pow (a d : Nat) : Int.fdiv (a : Int) (2 ^ d) = ((a >>> d : Nat) : Int) := by
  rw [Int.fdiv_eq_ediv_of_nonneg _ (Int.pow_nonneg (by omega)), Nat.shiftRight_eq_div_pow]
  simp
end Go.Proofs.YtjhgaacecfmadaaDoor
