/- Frames as plain functions. No program in sight. -/
import Derived.Test.YtdghbnkegahdnaaGreatCrc
set_option linter.unusedVariables false
set_option linter.unusedSimpArgs false
namespace Go.Proofs.YtdghbnkegahdnaaGreat.B
open Go
def frameB (d : List UInt8) : List UInt8 := put d.length ++ d ++ fix (sum (put d.length ++ d)) 4
/-- Encode: the bytes (none with an error). -/
def encF (d : List UInt8) : List UInt8 := if 1048576 < d.length then [] else frameB d
def encE (d : List UInt8) : Int := if 1048576 < d.length then 5 else 0
def small (b : UInt8) : Bool := decide (b.toNat < 128)
def openF (b : List UInt8) : Bool := decide (b.length < 10) && !b.any small
/-- Decode: data, how many bytes, the error. -/
def decF (b : List UInt8) : List UInt8 × Nat × Int :=
  if openF b = true then ([], 0, 2)
  else if (get b).2 = 0 then ([], 0, 3)
  else if 1048576 < (get b).1 then ([], 0, 5)
  else if b.length < (get b).2 + 4 + (get b).1 then ([], 0, 2)
  else if (b.drop ((get b).2 + (get b).1)).take 4 = fix (sum (b.take ((get b).2 + (get b).1))) 4 then ((b.take ((get b).2 + (get b).1)).drop (get b).2, (get b).2 + (get b).1 + 4, 0)
  else ([], 0, 4)
theorem decF_pos {b d : List UInt8} {n : Nat} (h : decF b = (d, n, 0)) : 5 ≤ n ∧ n ≤ b.length := by
  unfold decF at h
  split at h
  · cases h
  · split at h
    · cases h
    · split at h
      · cases h
      · split at h
        · cases h
        · split at h
          · simp only [Prod.mk.injEq] at h; omega
          · cases h
theorem decF_le (b : List UInt8) : (decF b).1.length ≤ b.length := by
  unfold decF
  repeat' split
  all_goals simp <;> omega
/-- The whole frames that bytes begin with: their data, how many bytes, what ends them. -/
def walkF (b : List UInt8) : List (List UInt8) × Nat × Int :=
  if b = [] then ([], 0, 0) else
  if h : (decF b).2.2 = 0 then
    let r := walkF (b.drop (decF b).2.1)
    ((decF b).1 :: r.1, (decF b).2.1 + r.2.1, r.2.2)
  else ([], 0, (decF b).2.2)
  termination_by b.length
  decreasing_by
  have := decF_pos (b := b) (d := (decF b).1) (n := (decF b).2.1) (by rw [← h])
  rw [List.length_drop]; omega
theorem walkF_nil : walkF [] = ([], 0, 0) := by rw [walkF, if_pos rfl]
theorem walkF_ok {b : List UInt8} (hb : b ≠ []) (h : (decF b).2.2 = 0) : walkF b = ((decF b).1 :: (walkF (b.drop (decF b).2.1)).1, (decF b).2.1 + (walkF (b.drop (decF b).2.1)).2.1, (walkF (b.drop (decF b).2.1)).2.2) := by
  rw [walkF, if_neg hb, dif_pos h]
theorem walkF_no {b : List UInt8} (hb : b ≠ []) (h : (decF b).2.2 ≠ 0) : walkF b = ([], 0, (decF b).2.2) := by
  rw [walkF, if_neg hb, dif_neg h]
/-- All: the data, the error. -/
def allF (b : List UInt8) : List (List UInt8) × Int := if (walkF b).2.2 = 0 then ((walkF b).1, 0) else ([], (walkF b).2.2)
def sizeF (n : Nat) : Nat := if 1048576 < n then 0 else (put n).length + 4 + n
theorem fix_len (n k : Nat) : (fix n k).length = k := by
  induction k generalizing n with
  | zero => rfl
  | succ k ih => simp [fix, ih]
theorem frameB_len (d : List UInt8) : (frameB d).length = (put d.length).length + d.length + 4 := by simp [frameB, fix_len]; omega
theorem walkF_le (b : List UInt8) : (walkF b).1.length ≤ b.length := by
  rw [walkF]
  split
  · simp
  · split
    · rename_i h
      have h1 := decF_pos (b := b) (d := (decF b).1) (n := (decF b).2.1) (by rw [← h])
      have h2 := walkF_le (b.drop (decF b).2.1)
      rw [List.length_drop] at h2
      simp only [List.length_cons]; omega
    · simp
  termination_by b.length
  decreasing_by rw [List.length_drop]; omega
end Go.Proofs.YtdghbnkegahdnaaGreat.B
