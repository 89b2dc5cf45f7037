/- The checksum as a plain function. No program in sight. -/
import Derived.Test.YtdghbnkegahdnaaGreatNum
set_option linter.unusedVariables false
set_option linter.unusedSimpArgs false
namespace Go.Proofs.YtdghbnkegahdnaaGreat.B
open Go
def crcS (x : Nat) : Nat := if x % 2 = 1 then x / 2 ^^^ 2197175160 else x / 2
def crcN : Nat → Nat → Nat
  | 0, x => x
  | n + 1, x => crcS (crcN n x)
/-- The register behind bytes. -/
def crcF (x : Nat) (l : List UInt8) : Nat := l.foldl (fun x c => crcN 8 (x % 256 ^^^ c.toNat) ^^^ x / 256) x
def more (s : Nat) (l : List UInt8) : Nat := 4294967295 - crcF (4294967295 - s) l
def sum (l : List UInt8) : Nat := more 0 l
theorem crcS_lt (x : Nat) (h : x < 4294967296) : crcS x < 4294967296 := by
  unfold crcS
  split
  · exact Nat.xor_lt_two_pow (n := 32) (by omega) (by decide)
  · omega
theorem crcN_lt (n x : Nat) (h : x < 4294967296) : crcN n x < 4294967296 := by
  induction n with
  | zero => exact h
  | succ n ih => exact crcS_lt _ ih
theorem crcF_lt (l : List UInt8) : ∀ x, x < 4294967296 → crcF x l < 4294967296 := by
  induction l with
  | nil => intro x h; exact h
  | cons c l ih =>
    intro x h
    refine ih _ (Nat.xor_lt_two_pow (n := 32) (crcN_lt 8 _ ?_) (by omega))
    have := Nat.xor_lt_two_pow (n := 8) (show x % 256 < 2 ^ 8 by omega) (show c.toNat < 2 ^ 8 from c.toNat_lt)
    omega
theorem crcF_append (a b : List UInt8) (x : Nat) : crcF x (a ++ b) = crcF (crcF x a) b := by simp [crcF, List.foldl_append]
theorem more_lt (s : Nat) (l : List UInt8) : more s l < 4294967296 := by unfold more; omega
theorem more_append (a b : List UInt8) : more (more 0 a) b = more 0 (a ++ b) := by
  have := crcF_lt a 4294967295 (by omega)
  unfold more
  rw [crcF_append, Nat.sub_zero, show 4294967295 - (4294967295 - crcF 4294967295 a) = crcF 4294967295 a from by omega]
theorem crcS_bits (x : Nat) (h : x < 4294967296) :
    bits .xor .u32 ((x : Int) / 2) (bits .and .u32 2197175160 ((-(bits .and .u32 (x : Int) 1)) % 4294967296)) = (crcS x : Int) := by
  have h1 : bits .and .u32 (x : Int) 1 = ((x % 2 : Nat) : Int) := by
    have := bits_and .u32 rfl x 1 (by simpa [IntKind.bits] using h) (by simp [IntKind.bits])
    rw [Nat.and_two_pow_sub_one_eq_mod x 1] at this
    exact this
  rw [h1]
  unfold crcS
  by_cases h2 : x % 2 = 1
  · rw [if_pos h2, h2]
    have e1 : bits .and .u32 2197175160 ((-((1 : Nat) : Int)) % 4294967296) = ((2197175160 : Nat) : Int) := by decide +kernel
    rw [e1, show (x : Int) / 2 = ((x / 2 : Nat) : Int) from by omega, bits_xor .u32 rfl _ _ (by simp [IntKind.bits]; omega) (by simp [IntKind.bits])]
  · rw [if_neg h2, show x % 2 = 0 from by omega]
    have e1 : bits .and .u32 2197175160 ((-((0 : Nat) : Int)) % 4294967296) = ((0 : Nat) : Int) := by decide +kernel
    rw [e1, show (x : Int) / 2 = ((x / 2 : Nat) : Int) from by omega, bits_xor .u32 rfl _ _ (by simp [IntKind.bits]; omega) (by simp [IntKind.bits]), Nat.xor_zero]
theorem not32 (s : Nat) (h : s < 4294967296) : bits .xor .u32 IntKind.u32.max (s : Int) = ((4294967295 - s : Nat) : Int) := by
  have e : IntKind.u32.max = ((4294967295 : Nat) : Int) := by decide
  rw [e, bits_xor .u32 rfl _ _ (by simp [IntKind.bits]) (by simpa [IntKind.bits] using h)]
  congr 1
  have h1 : (BitVec.ofNat 32 4294967295 ^^^ BitVec.ofNat 32 s) = ~~~ (BitVec.ofNat 32 s) := by
    have : (BitVec.ofNat 32 4294967295) = BitVec.allOnes 32 := by decide
    rw [this, BitVec.allOnes_xor]
  have h2 := congrArg BitVec.toNat h1
  rw [BitVec.toNat_xor, BitVec.toNat_not, BitVec.toNat_ofNat, BitVec.toNat_ofNat, Nat.mod_eq_of_lt (by decide), Nat.mod_eq_of_lt (by simpa using h)] at h2
  exact h2
theorem xor8 (x n : Nat) (hn : n < 256) : bits .xor .u8 ((x : Int) % 256) (n : Int) = ((x % 256 ^^^ n : Nat) : Int) := by
  rw [show (x : Int) % 256 = ((x % 256 : Nat) : Int) from by omega, bits_xor .u8 rfl _ _ (by simp [IntKind.bits]; omega) (by simpa [IntKind.bits] using hn)]
theorem xor8_lt (x n : Nat) (hn : n < 256) : x % 256 ^^^ n < 256 := Nat.xor_lt_two_pow (n := 8) (show x % 256 < 2 ^ 8 by omega) hn
theorem xor32 (a x : Nat) (ha : a < 4294967296) (hx : x < 4294967296) : bits .xor .u32 (a : Int) ((x : Int) / 256) = ((a ^^^ x / 256 : Nat) : Int) := by
  rw [show (x : Int) / 256 = ((x / 256 : Nat) : Int) from by omega, bits_xor .u32 rfl _ _ (by simpa [IntKind.bits] using ha) (by simp [IntKind.bits]; omega)]
theorem crcF_take (x : Nat) (l : List UInt8) (k : Nat) (hk : k < l.length) : crcF x (l.take (k + 1)) = crcN 8 (crcF x (l.take k) % 256 ^^^ l[k].toNat) ^^^ crcF x (l.take k) / 256 := by
  rw [List.take_succ_eq_append_getElem hk, crcF_append]; rfl
end Go.Proofs.YtdghbnkegahdnaaGreat.B
