/- Operations and states as bytes: the plain functions. No program in sight. -/
import Derived.Test.YtdghbnkegahdnaaGreatNum
import Derived.Test.YtdghbnkegahdnaaGreatObjs
set_option linter.unusedVariables false
set_option linter.unusedSimpArgs false
namespace Go.Proofs.YtdghbnkegahdnaaGreat.B
open Go
def putOp (o : Opn) : List UInt8 := put o.code ++ putS o.a ++ putS o.b
def opZ : Opn := ⟨0, 0, 0⟩
/-- What the three numbers of an operation are. -/
def getOp3 (l : List UInt8) : Opn × Nat × Nat × Nat :=
  let g1 := get l
  let g2 := getS (l.drop g1.2)
  let g3 := getS ((l.drop g1.2).drop g2.2)
  (⟨g1.1, g2.1, g3.1⟩, g1.2, g2.2, g3.2)
def getOp (l : List UInt8) : Opn × Nat :=
  let r := getOp3 l
  if r.2.1 = 0 ∨ r.2.2.1 = 0 ∨ r.2.2.2 = 0 ∨ fitsO r.1 = false then (opZ, 0) else (r.1, r.2.1 + r.2.2.1 + r.2.2.2)
def sealN (s : St) : Int := if s.sealed = true then s.to + 1 else 0
def numsB (l : List Int) : List UInt8 := l.flatMap putS
def encS (s : St) : List UInt8 := put s.kind ++ put (sealN s) ++ put s.l.length ++ numsB s.l
/-- So many numbers that bytes begin with: the numbers, what is left, were all there? -/
def getMany : Nat → List UInt8 → List Int × List UInt8 × Bool
  | 0, l => ([], l, true)
  | n + 1, l => let r := getMany n (l.drop (getS l).2); ((getS l).1 :: r.1, r.2.1, decide (0 < (getS l).2) && r.2.2)
def stZ : St := ⟨0, [], false, 0⟩
/-- DecodeState: the state, the error. -/
def decS (l : List UInt8) : St × Int :=
  let g1 := get l
  let l1 := l.drop g1.2
  let g2 := get l1
  let l2 := l1.drop g2.2
  let g3 := get l2
  let l3 := l2.drop g3.2
  if g1.2 = 0 ∨ g2.2 = 0 ∨ g3.2 = 0 ∨ 3 < g2.1 ∨ 128 < g3.1 then (stZ, 3) else
  let m := getMany g3.1 l3
  let s : St := ⟨g1.1, m.1, decide (0 < g2.1), ((g2.1 - 1 : Nat) : Int)⟩
  if m.2.2 = false ∨ m.2.1 ≠ [] then (stZ, 3) else if mayS s = false then (stZ, 1) else (s, 0)
theorem putS_len (n : Int) (h0 : -9223372036854775808 ≤ n) (h1 : n ≤ 9223372036854775807) : (putS n).length ≤ 10 := grp_len10 _ (zig_lt n h0 h1)
theorem putOp_len (o : Opn) (h : fitsO o = true) : (putOp o).length ≤ 30 := by
  have hf := (fitsO_iff o).1 h
  have := put_len o.code
  have := putS_len o.a (by omega) (by omega)
  have := putS_len o.b (by omega) (by omega)
  simp only [putOp, List.length_append]; omega
theorem getOp_le (l : List UInt8) : (getOp l).2 ≤ l.length := by
  have h1 := get_le l
  have h2 := getS_le (l.drop (get l).2)
  have h3 := getS_le ((l.drop (get l).2).drop (getS (l.drop (get l).2)).2)
  simp only [List.length_drop] at h2 h3
  unfold getOp
  simp only
  by_cases h : (getOp3 l).2.1 = 0 ∨ (getOp3 l).2.2.1 = 0 ∨ (getOp3 l).2.2.2 = 0 ∨ fitsO (getOp3 l).1 = false
  · rw [if_pos h]; simp
  · rw [if_neg h]; simp only [getOp3]; omega
theorem numsB_len (l : List Int) (h : ∀ n ∈ l, -1099511627776 ≤ n ∧ n ≤ 1099511627776) : (numsB l).length ≤ 10 * l.length := by
  induction l with
  | nil => simp [numsB]
  | cons n l ih =>
    have h1 := putS_len n (by have := h n (by simp); omega) (by have := h n (by simp); omega)
    have h2 := ih (fun m hm => h m (by simp [hm]))
    simp only [numsB, List.flatMap_cons, List.length_append, List.length_cons] at h2 ⊢
    omega
theorem numsB_take (l : List Int) (k : Nat) (hk : k < l.length) : numsB (l.take (k + 1)) = numsB (l.take k) ++ putS l[k] := by
  rw [numsB, List.take_succ_eq_append_getElem hk, List.flatMap_append]; simp [numsB]
theorem encS_len (s : St) (h : mayS s = true) : (encS s).length ≤ 1310 := by
  have hm := mayS_all h
  have h1 := numsB_len s.l hm.1
  have h2 := put_len s.kind
  have h3 := put_len (sealN s)
  have h4 := put_len (s.l.length : Int)
  simp only [encS, List.length_append]
  omega
end Go.Proofs.YtdghbnkegahdnaaGreat.B
