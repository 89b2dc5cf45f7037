/- Numbers as bytes: the plain functions, and the laws of the bits that their code leans on. No program in sight. -/
import Derived.WalkKit
set_option linter.unusedVariables false
set_option linter.unusedSimpArgs false
namespace Go.Proofs.YtdghbnkegahdnaaGreat.B
open Go

/-! ### bits -/
theorem bits_and (k : IntKind) (hk : k.signed = false) (a b : Nat) (ha : a < 2 ^ k.bits) (hb : b < 2 ^ k.bits) : bits .and k a b = ((a &&& b : Nat) : Int) := by
  have h1 : a &&& b < 2 ^ k.bits := Nat.lt_of_le_of_lt Nat.and_le_left ha
  simp [bits, IntKind.wrap, hk, BitVec.ofInt_natCast, Nat.mod_eq_of_lt ha, Nat.mod_eq_of_lt hb]
  exact_mod_cast Nat.mod_eq_of_lt h1
theorem bits_or (k : IntKind) (hk : k.signed = false) (a b : Nat) (ha : a < 2 ^ k.bits) (hb : b < 2 ^ k.bits) : bits .or k a b = ((a ||| b : Nat) : Int) := by
  have h1 : a ||| b < 2 ^ k.bits := Nat.or_lt_two_pow ha hb
  simp [bits, IntKind.wrap, hk, BitVec.ofInt_natCast, Nat.mod_eq_of_lt ha, Nat.mod_eq_of_lt hb]
  exact_mod_cast Nat.mod_eq_of_lt h1
theorem bits_xor (k : IntKind) (hk : k.signed = false) (a b : Nat) (ha : a < 2 ^ k.bits) (hb : b < 2 ^ k.bits) : bits .xor k a b = ((a ^^^ b : Nat) : Int) := by
  have h1 : a ^^^ b < 2 ^ k.bits := Nat.xor_lt_two_pow ha hb
  simp [bits, IntKind.wrap, hk, BitVec.ofInt_natCast, Nat.mod_eq_of_lt ha, Nat.mod_eq_of_lt hb]
  exact_mod_cast Nat.mod_eq_of_lt h1
theorem wrap_u64 (n : Nat) (h : n < 18446744073709551616) : IntKind.u64.wrap (n : Int) = n := by
  simp [IntKind.wrap, IntKind.signed, IntKind.bits]; omega
theorem and127 (n : Nat) (h : n < 256) : bits .and .u8 (n : Int) 127 = ((n % 128 : Nat) : Int) := by
  have := bits_and .u8 rfl n 127 (by simpa [IntKind.bits] using h) (by simp [IntKind.bits])
  rw [Nat.and_two_pow_sub_one_eq_mod n 7] at this
  exact this
theorem or128 (u : Nat) : bits .or .u8 (((u : Nat) : Int) % 256) 128 = ((u % 128 + 128 : Nat) : Int) := by
  have h := bits_or .u8 rfl (u % 256) 128 (by simp [IntKind.bits]; omega) (by simp [IntKind.bits])
  have h2 : ∀ b : Nat, b < 256 → b ||| 128 = b % 128 + 128 := by decide +kernel
  rw [h2 _ (by omega)] at h
  have : u % 256 % 128 = u % 128 := by omega
  rw [this] at h
  have e : (((u % 256 : Nat)) : Int) = (u : Int) % 256 := by omega
  rw [e] at h
  exact h
theorem pow128 (k : Nat) : 128 ^ k = 2 ^ (7 * k) := by rw [Nat.pow_mul]
theorem or_step (v k n : Nat) (hv : v < 128 ^ k) (hk : k ≤ 9) (hn : n < 256) (h9 : k = 9 → n ≤ 1) :
    bits .or .u64 (v : Int) (IntKind.u64.wrap (IntKind.u64.wrap (bits .and .u8 (n : Int) 127) * 2 ^ (7 * k))) = ((v + n % 128 * 128 ^ k : Nat) : Int) := by
  have hk2 : (128 : Nat) ^ k ≤ 128 ^ 9 := Nat.pow_le_pow_right (by decide) hk
  have hlt : n % 128 * 128 ^ k < 18446744073709551616 := by
    by_cases h : k = 9
    · subst h
      have := h9 rfl
      have h2 : n % 128 ≤ 1 := by omega
      calc n % 128 * 128 ^ 9 ≤ 1 * 128 ^ 9 := Nat.mul_le_mul_right _ h2
        _ < _ := by decide
    · have h8 : (128 : Nat) ^ k ≤ 128 ^ 8 := Nat.pow_le_pow_right (by decide) (by omega)
      calc n % 128 * 128 ^ k ≤ 127 * 128 ^ 8 := Nat.mul_le_mul (by omega) h8
        _ < _ := by decide
  rw [and127 n hn, wrap_u64 _ (by omega)]
  have e : ((n % 128 : Nat) : Int) * 2 ^ (7 * k) = ((n % 128 * 128 ^ k : Nat) : Int) := by rw [pow128]; push_cast; rfl
  rw [e, wrap_u64 _ hlt]
  have hv2 : v < 18446744073709551616 := Nat.lt_of_lt_of_le hv (Nat.le_trans hk2 (by decide))
  rw [bits_or .u64 rfl v _ (by simpa [IntKind.bits] using hv2) (by simpa [IntKind.bits] using hlt)]
  congr 1
  rw [pow128] at hv ⊢
  rw [Nat.mul_comm (n % 128), Nat.or_comm, ← Nat.two_pow_add_eq_or_of_lt hv, Nat.add_comm]

/-! ### numbers -/
def b8 (n : Nat) : UInt8 := UInt8.ofNat n
theorem b8_toNat (n : Nat) (h : n < 256) : (b8 n).toNat = n := by simp [b8]; omega
def grp (n : Nat) : List UInt8 := if n < 128 then [b8 n] else b8 (n % 128 + 128) :: grp (n / 128)
  termination_by n
  decreasing_by omega
def put (n : Int) : List UInt8 := if n < 0 ∨ 4611686018427387904 ≤ n then [] else grp n.toNat
def zig (n : Int) : Nat := if 0 ≤ n then (2 * n).toNat else (-2 * n - 1).toNat
def zag (u : Nat) : Int := if u % 2 = 0 then ((u / 2 : Nat) : Int) else -((u / 2 : Nat) : Int) - 1
def putS (n : Int) : List UInt8 := grp (zig n)
def decA : Nat → Nat → List UInt8 → Nat × Nat
  | _, _, [] => (0, 0)
  | i, u, c :: r => if 10 ≤ i then (0, 0) else if (i = 9 ∧ 1 < c.toNat) ∨ (c.toNat = 0 ∧ 0 < i) then (0, 0)
    else if c.toNat < 128 then (u + c.toNat % 128 * 128 ^ i, i + 1) else decA (i + 1) (u + c.toNat % 128 * 128 ^ i) r
def dec (l : List UInt8) : Nat × Nat := decA 0 0 l
def get (l : List UInt8) : Nat × Nat := if 4611686018427387904 ≤ (dec l).1 then (0, 0) else dec l
def getS (l : List UInt8) : Int × Nat := if (dec l).2 = 0 then (0, 0) else (zag (dec l).1, (dec l).2)
/-- The low k bytes of a number. -/
def fix (n : Nat) : Nat → List UInt8
  | 0 => []
  | k + 1 => b8 (n % 256) :: fix (n / 256) k
def fixed : List UInt8 → Nat
  | [] => 0
  | c :: r => c.toNat + 256 * fixed r

theorem grp_lt (n : Nat) (h : n < 128) : grp n = [b8 n] := by rw [grp, if_pos h]
theorem grp_ge (n : Nat) (h : ¬ n < 128) : grp n = b8 (n % 128 + 128) :: grp (n / 128) := by rw [grp, if_neg h]
theorem grp_len (k : Nat) : ∀ n, n < 128 ^ (k + 1) → (grp n).length ≤ k + 1 := by
  induction k with
  | zero => intro n h; rw [grp_lt n (by simpa using h)]; simp
  | succ k ih =>
    intro n h
    by_cases h1 : n < 128
    · rw [grp_lt n h1]; simp
    · rw [grp_ge n h1]
      have := ih (n / 128) (by rw [Nat.div_lt_iff_lt_mul (by decide)]; rwa [Nat.pow_succ] at h)
      simp only [List.length_cons]; omega
theorem grp_len10 (n : Nat) (h : n < 18446744073709551616) : (grp n).length ≤ 10 := grp_len 9 n (Nat.lt_of_lt_of_le h (by decide))
theorem grp_pos (n : Nat) : 0 < (grp n).length := by rw [grp]; split <;> simp
theorem zig_lt (n : Int) (h0 : -9223372036854775808 ≤ n) (h1 : n ≤ 9223372036854775807) : zig n < 18446744073709551616 := by unfold zig; split <;> omega
theorem put_len (n : Int) : (put n).length ≤ 10 := by
  unfold put
  split
  · simp
  · exact grp_len10 _ (by omega)
theorem decA_nil (i u : Nat) : decA i u [] = (0, 0) := rfl
theorem decA_ten (i u : Nat) (l : List UInt8) (h : 10 ≤ i) : decA i u l = (0, 0) := by
  cases l with
  | nil => rfl
  | cons c r => rw [decA, if_pos h]
theorem decA_le (l : List UInt8) : ∀ i u, (decA i u l).2 ≤ i + l.length := by
  induction l with
  | nil => intro i u; simp [decA]
  | cons c r ih =>
    intro i u
    rw [decA]
    split
    · simp
    · split
      · simp
      · split
        · simp only [List.length_cons]; omega
        · have := ih (i + 1) (u + c.toNat % 128 * 128 ^ i); simp only [List.length_cons]; omega
theorem decA_le10 (l : List UInt8) : ∀ i u, (decA i u l).2 ≤ 10 := by
  induction l with
  | nil => intro i u; simp [decA]
  | cons c r ih =>
    intro i u
    rw [decA]
    split
    · simp
    · split
      · simp
      · split
        · show i + 1 ≤ 10; omega
        · exact ih _ _
theorem dec_le (l : List UInt8) : (dec l).2 ≤ l.length := by have := decA_le l 0 0; unfold dec; omega
theorem dec_le10 (l : List UInt8) : (dec l).2 ≤ 10 := decA_le10 l 0 0
theorem decA_lt (l : List UInt8) : ∀ i u, u < 128 ^ i → (decA i u l).1 < 18446744073709551616 := by
  induction l with
  | nil => intro i u _; simp [decA]
  | cons c r ih =>
    intro i u hu
    rw [decA]
    split
    · simp
    · rename_i hi
      split
      · simp
      · rename_i hc
        have hs : u + c.toNat % 128 * 128 ^ i < 128 ^ (i + 1) := by
          have : c.toNat % 128 * 128 ^ i ≤ 127 * 128 ^ i := Nat.mul_le_mul_right _ (by omega)
          rw [Nat.pow_succ]; omega
        split
        · by_cases h9 : i = 9
          · subst h9
            have h1 : c.toNat % 128 * 128 ^ 9 ≤ 1 * 128 ^ 9 := Nat.mul_le_mul_right _ (by omega)
            have h2 : (128 : Nat) ^ 9 = 9223372036854775808 := by decide
            simp only [h2] at h1 hu ⊢; omega
          · have h2 : (128 : Nat) ^ (i + 1) ≤ 128 ^ 9 := Nat.pow_le_pow_right (by decide) (by omega)
            have h3 : (128 : Nat) ^ 9 = 9223372036854775808 := by decide
            show u + c.toNat % 128 * 128 ^ i < _; omega
        · exact ih _ _ hs
theorem dec_lt (l : List UInt8) : (dec l).1 < 18446744073709551616 := decA_lt l 0 0 (by simp)
theorem get_le (l : List UInt8) : (get l).2 ≤ l.length := by unfold get; split; simp; exact dec_le l
theorem get_le10 (l : List UInt8) : (get l).2 ≤ 10 := by unfold get; split; simp; exact dec_le10 l
theorem get_lt (l : List UInt8) : (get l).1 < 4611686018427387904 := by
  unfold get
  split
  · decide
  · omega
theorem getS_le (l : List UInt8) : (getS l).2 ≤ l.length := by unfold getS; split; simp; exact dec_le l
theorem getS_le10 (l : List UInt8) : (getS l).2 ≤ 10 := by unfold getS; split; simp; exact dec_le10 l

/-! ### zigzag -/
theorem bv_not (x : BitVec 64) : x ^^^ BitVec.ofInt 64 (-1) = ~~~x := by
  have : (BitVec.ofInt 64 (-1)) = BitVec.allOnes 64 := by decide
  rw [this, BitVec.xor_allOnes]
theorem zig_eq (n : Int) (h0 : -9223372036854775808 ≤ n) (h1 : n ≤ 9223372036854775807) :
    bits .xor .u64 (IntKind.u64.wrap (IntKind.u64.wrap n * 2)) (IntKind.u64.wrap (n / 9223372036854775808)) = (zig n : Int) := by
  unfold zig
  by_cases hn : 0 ≤ n
  · obtain ⟨m, rfl⟩ := Int.eq_ofNat_of_zero_le hn
    have e1 : ((m : Int) / 9223372036854775808) = ((0 : Nat) : Int) := by omega
    rw [e1, wrap_u64 0 (by decide), wrap_u64 m (by omega), show (m : Int) * 2 = ((2 * m : Nat) : Int) from by omega, wrap_u64 (2 * m) (by omega), bits_xor .u64 rfl _ _ (by simp [IntKind.bits]; omega) (by simp [IntKind.bits]), if_pos hn, Nat.xor_zero]
    congr 1
  · have e1 : n / 9223372036854775808 = -1 := by omega
    have e2 : IntKind.u64.wrap n = n + 18446744073709551616 := by simp [IntKind.wrap, IntKind.signed, IntKind.bits]; omega
    have e3 : IntKind.u64.wrap ((n + 18446744073709551616) * 2) = (((2 * n + 18446744073709551616).toNat : Nat) : Int) := by simp [IntKind.wrap, IntKind.signed, IntKind.bits]; omega
    have e4 : IntKind.u64.wrap (-1) = 18446744073709551615 := by decide
    rw [e1, e2, e3, e4, if_neg hn]
    generalize hx : (2 * n + 18446744073709551616).toNat = x
    have hxl : x < 18446744073709551616 := by omega
    unfold bits
    simp only
    have e5 : BitVec.ofInt IntKind.u64.bits 18446744073709551615 = BitVec.ofInt 64 (-1) := by rfl
    have e6 : BitVec.ofInt IntKind.u64.bits (x : Int) = BitVec.ofNat 64 x := BitVec.ofInt_natCast ..
    rw [e5, e6]
    show IntKind.u64.wrap (((BitVec.ofNat 64 x ^^^ BitVec.ofInt 64 (-1)).toNat : Nat) : Int) = _
    rw [bv_not, BitVec.toNat_not, BitVec.toNat_ofNat, Nat.mod_eq_of_lt (by simpa using hxl), wrap_u64 _ (by omega)]
    omega
theorem and1_u64 (u : Nat) (h : u < 18446744073709551616) : bits .and .u64 (u : Int) 1 = ((u % 2 : Nat) : Int) := by
  have := bits_and .u64 rfl u 1 (by simpa [IntKind.bits] using h) (by simp [IntKind.bits])
  rw [Nat.and_two_pow_sub_one_eq_mod u 1] at this
  exact this
theorem zag_eq (u : Nat) (h : u < 18446744073709551616) : bits .xor .i64 ((u / 2 : Nat) : Int) (-((u % 2 : Nat) : Int)) = zag u := by
  unfold zag
  have hb : BitVec.ofInt IntKind.i64.bits ((u / 2 : Nat) : Int) = BitVec.ofNat 64 (u / 2) := BitVec.ofInt_natCast ..
  by_cases h2 : u % 2 = 0
  · rw [if_pos h2, h2]
    unfold bits
    simp only
    rw [hb]
    have : BitVec.ofInt IntKind.i64.bits (-((0 : Nat) : Int)) = 0#64 := by rfl
    rw [this]
    show IntKind.i64.wrap (((BitVec.ofNat 64 (u / 2) ^^^ 0#64).toNat : Nat) : Int) = _
    rw [BitVec.xor_zero, BitVec.toNat_ofNat, Nat.mod_eq_of_lt (by omega)]
    simp [IntKind.wrap, IntKind.signed, IntKind.bits]
    omega
  · have h3 : u % 2 = 1 := by omega
    rw [if_neg h2, h3]
    unfold bits
    simp only
    rw [hb]
    show IntKind.i64.wrap (((BitVec.ofNat 64 (u / 2) ^^^ BitVec.ofInt 64 (-1)).toNat : Nat) : Int) = _
    rw [bv_not, BitVec.toNat_not, BitVec.toNat_ofNat, Nat.mod_eq_of_lt (by omega)]
    simp [IntKind.wrap, IntKind.signed, IntKind.bits]
    omega
theorem zag_zig (n : Int) : zag (zig n) = n := by unfold zag zig; split <;> split <;> omega
theorem zag_lo (u : Nat) (h : u < 18446744073709551616) : -9223372036854775808 ≤ zag u ∧ zag u ≤ 9223372036854775807 := by unfold zag; split <;> omega
theorem zig_zag (u : Nat) : zig (zag u) = u := by unfold zag zig; split <;> split <;> omega

/-! ### fixed -/
theorem fixed_append (a b : List UInt8) : fixed (a ++ b) = fixed a + 256 ^ a.length * fixed b := by
  induction a with
  | nil => simp [fixed]
  | cons c r ih => simp only [List.cons_append, fixed, ih, List.length_cons, Nat.pow_succ]; rw [Nat.mul_add, ← Nat.mul_assoc, Nat.mul_comm (256 ^ r.length) 256]; omega
theorem fixed_lt (a : List UInt8) : fixed a < 256 ^ a.length := by
  induction a with
  | nil => simp [fixed]
  | cons c r ih => have := c.toNat_lt; simp only [fixed, List.length_cons, Nat.pow_succ]; omega
theorem fixed_step (l : List UInt8) (k : Nat) (hk : k < l.length) (h8 : k < 8) :
    bits .or .u64 (fixed (l.take k) : Int) (IntKind.u64.wrap ((l[k].toNat : Int) * 2 ^ (8 * k))) = (fixed (l.take (k + 1)) : Int) := by
  have hlt := fixed_lt (l.take k)
  rw [List.length_take, Nat.min_eq_left (by omega)] at hlt
  have hb := l[k].toNat_lt
  have hp : (256 : Nat) ^ k = 2 ^ (8 * k) := by rw [Nat.pow_mul]
  have h1 : (256 : Nat) ^ k ≤ 256 ^ 7 := Nat.pow_le_pow_right (by decide) (by omega)
  have h2 : l[k].toNat * 256 ^ k ≤ 255 * 256 ^ 7 := Nat.mul_le_mul (by omega) h1
  have h3 : (255 : Nat) * 256 ^ 7 < 18446744073709551616 := by decide
  have h4 : (256 : Nat) ^ 7 < 18446744073709551616 := by decide
  have e : (l[k].toNat : Int) * 2 ^ (8 * k) = ((l[k].toNat * 256 ^ k : Nat) : Int) := by rw [hp]; push_cast; rfl
  rw [e, wrap_u64 _ (by omega), bits_or .u64 rfl _ _ (by simp only [IntKind.bits]; omega) (by simp only [IntKind.bits]; omega)]
  rw [List.take_succ_eq_append_getElem hk, fixed_append, List.length_take, Nat.min_eq_left (by omega)]
  congr 1
  rw [hp] at hlt ⊢
  simp only [fixed, Nat.mul_zero, Nat.add_zero]
  rw [Nat.mul_comm l[k].toNat, Nat.or_comm, ← Nat.two_pow_add_eq_or_of_lt hlt, Nat.add_comm]
end Go.Proofs.YtdghbnkegahdnaaGreat.B
