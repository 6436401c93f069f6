/- Words and bytes as bit vectors: what each of the machine's operations on integers gives when its operands are the numbers of bit vectors. -/
import Derived.WalkKit
import Derived.WalkSpells
import Derived.WalkLawsBesides
namespace Go.Proofs.Ytekpjdfgpggcnaa
set_option linter.unusedSimpArgs false
set_option linter.unusedVariables false
open Go.RowKit

def n8 (x : BitVec 8) : Int := x.toNat
def n32 (x : BitVec 32) : Int := x.toNat
def n64 (x : BitVec 64) : Int := x.toNat

theorem wrapu_nat (k : IntKind) (hs : k.signed = false) (a : Nat) : k.wrap (a : Int) = ((a % 2 ^ k.bits : Nat) : Int) := by
  unfold IntKind.wrap
  simp [hs]
theorem ofInt_toNat {n : Nat} (x : BitVec n) : BitVec.ofInt n (x.toNat : Int) = x := by
  rw [BitVec.ofInt_natCast]; simp
theorem wrapu_toNat (k : IntKind) (hs : k.signed = false) (x : BitVec k.bits) : k.wrap (x.toNat : Int) = (x.toNat : Int) := by
  rw [wrapu_nat k hs, Nat.mod_eq_of_lt x.isLt]

theorem n8_inj {x y : BitVec 8} : n8 x = n8 y ↔ x = y :=
  ⟨fun h => BitVec.eq_of_toNat_eq (Int.ofNat.inj h), congrArg _⟩
theorem n32_inj {x y : BitVec 32} : n32 x = n32 y ↔ x = y :=
  ⟨fun h => BitVec.eq_of_toNat_eq (Int.ofNat.inj h), congrArg _⟩
theorem n64_inj {x y : BitVec 64} : n64 x = n64 y ↔ x = y :=
  ⟨fun h => BitVec.eq_of_toNat_eq (Int.ofNat.inj h), congrArg _⟩
theorem n8_bd (x : BitVec 8) : 0 ≤ n8 x ∧ n8 x ≤ 255 := by unfold n8; have := x.isLt; omega
theorem n32_bd (x : BitVec 32) : 0 ≤ n32 x ∧ n32 x ≤ 4294967295 := by unfold n32; have := x.isLt; omega
theorem n64_bd (x : BitVec 64) : 0 ≤ n64 x ∧ n64 x ≤ 18446744073709551615 := by unfold n64; have := x.isLt; omega

theorem add_u32 (x y : BitVec 32) : IntKind.u32.wrap (n32 x + n32 y) = n32 (x + y) := by
  unfold n32; rw [← Int.natCast_add, wrapu_nat .u32 rfl, BitVec.toNat_add]; rfl
theorem sub_u32 (x y : BitVec 32) : IntKind.u32.wrap (n32 x - n32 y) = n32 (x - y) := by
  unfold n32; rw [IntKind.wrap_u32, BitVec.toNat_sub]; omega
theorem mul_u32 (x y : BitVec 32) : IntKind.u32.wrap (n32 x * n32 y) = n32 (x * y) := by
  unfold n32; rw [← Int.natCast_mul, wrapu_nat .u32 rfl, BitVec.toNat_mul]; rfl
theorem add_u64 (x y : BitVec 64) : IntKind.u64.wrap (n64 x + n64 y) = n64 (x + y) := by
  unfold n64; rw [← Int.natCast_add, wrapu_nat .u64 rfl, BitVec.toNat_add]; rfl
theorem inc_u32 (x : BitVec 32) : IntKind.u32.wrap (n32 x + 1) = n32 (x + 1) := add_u32 x 1
theorem mul_u64 (x y : BitVec 64) : IntKind.u64.wrap (n64 x * n64 y) = n64 (x * y) := by
  unfold n64; rw [← Int.natCast_mul, wrapu_nat .u64 rfl, BitVec.toNat_mul]; rfl

theorem xor_u32 (x y : BitVec 32) : bits .xor .u32 (n32 x) (n32 y) = n32 (x ^^^ y) := by
  show IntKind.u32.wrap ((BitVec.ofInt 32 (x.toNat : Int) ^^^ BitVec.ofInt 32 (y.toNat : Int)).toNat : Int) = _
  rw [ofInt_toNat, ofInt_toNat]; exact wrapu_toNat .u32 rfl _
theorem or_u32 (x y : BitVec 32) : bits .or .u32 (n32 x) (n32 y) = n32 (x ||| y) := by
  show IntKind.u32.wrap ((BitVec.ofInt 32 (x.toNat : Int) ||| BitVec.ofInt 32 (y.toNat : Int)).toNat : Int) = _
  rw [ofInt_toNat, ofInt_toNat]; exact wrapu_toNat .u32 rfl _
theorem and_u32 (x y : BitVec 32) : bits .and .u32 (n32 x) (n32 y) = n32 (x &&& y) := by
  show IntKind.u32.wrap ((BitVec.ofInt 32 (x.toNat : Int) &&& BitVec.ofInt 32 (y.toNat : Int)).toNat : Int) = _
  rw [ofInt_toNat, ofInt_toNat]; exact wrapu_toNat .u32 rfl _
theorem xor_u8 (x y : BitVec 8) : bits .xor .u8 (n8 x) (n8 y) = n8 (x ^^^ y) := by
  show IntKind.u8.wrap ((BitVec.ofInt 8 (x.toNat : Int) ^^^ BitVec.ofInt 8 (y.toNat : Int)).toNat : Int) = _
  rw [ofInt_toNat, ofInt_toNat]; exact wrapu_toNat .u8 rfl _
theorem or_u8 (x y : BitVec 8) : bits .or .u8 (n8 x) (n8 y) = n8 (x ||| y) := by
  show IntKind.u8.wrap ((BitVec.ofInt 8 (x.toNat : Int) ||| BitVec.ofInt 8 (y.toNat : Int)).toNat : Int) = _
  rw [ofInt_toNat, ofInt_toNat]; exact wrapu_toNat .u8 rfl _

theorem shl_u32 (x : BitVec 32) (k : Nat) : IntKind.u32.wrap (n32 x * 2 ^ k) = n32 (x <<< k) := by
  unfold n32
  have : (x.toNat : Int) * 2 ^ k = ((x.toNat * 2 ^ k : Nat) : Int) := by simp
  rw [this, wrapu_nat .u32 rfl, BitVec.toNat_shiftLeft, Nat.shiftLeft_eq]; rfl
theorem shr_u32 (x : BitVec 32) (k : Nat) : ((n32 x).fdiv (2 ^ k)) = n32 (x >>> k) := by
  unfold n32
  rw [BitVec.toNat_ushiftRight, Nat.shiftRight_eq_div_pow, Int.fdiv_eq_ediv_of_nonneg _ (by exact_mod_cast Nat.zero_le (2^k))]
  simp
theorem conv_u8_u32 (x : BitVec 8) : IntKind.u32.wrap (n8 x) = n32 (x.setWidth 32) := by
  unfold n8 n32; rw [wrapu_nat .u32 rfl, BitVec.toNat_setWidth]; rfl
theorem conv_u32_u8 (x : BitVec 32) : IntKind.u8.wrap (n32 x) = n8 (x.setWidth 8) := by
  unfold n8 n32; rw [wrapu_nat .u8 rfl, BitVec.toNat_setWidth]; rfl
theorem shr_u32' (x : BitVec 32) (k : Nat) : n32 x / 2 ^ k = n32 (x >>> k) := by
  rw [← shr_u32, Int.fdiv_eq_ediv_of_nonneg _ (by exact_mod_cast Nat.zero_le (2^k))]
theorem shl8_u32 (x : BitVec 32) : IntKind.u32.wrap (n32 x * 256) = n32 (x <<< 8) := shl_u32 x 8
theorem shl16_u32 (x : BitVec 32) : IntKind.u32.wrap (n32 x * 65536) = n32 (x <<< 16) := shl_u32 x 16
theorem shl24_u32 (x : BitVec 32) : IntKind.u32.wrap (n32 x * 16777216) = n32 (x <<< 24) := shl_u32 x 24
theorem shr8_u32 (x : BitVec 32) : n32 x / (256 : Int) = n32 (x >>> 8) := shr_u32' x 8
theorem shr16_u32 (x : BitVec 32) : n32 x / (65536 : Int) = n32 (x >>> 16) := shr_u32' x 16
theorem shr24_u32 (x : BitVec 32) : n32 x / (16777216 : Int) = n32 (x >>> 24) := shr_u32' x 24
end Go.Proofs.Ytekpjdfgpggcnaa
