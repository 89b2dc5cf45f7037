/- Records in three versions: the plain functions. No program in sight. -/
import Derived.Test.YtdghbnkegahdnaaGreatCodec
set_option linter.unusedVariables false
set_option linter.unusedSimpArgs false
namespace Go.Proofs.YtdghbnkegahdnaaGreat.B
open Go
def fieldsOf (v : Int) : List Int := if v = 1 then [1, 2, 4] else if v = 2 then [1, 2, 3, 4] else if v = 3 then [1, 2, 3, 4, 5] else []
def rcZ : Rcd := ⟨0, 0, 0, opZ, 0⟩
/-- A field of a record as bytes. -/
def putF (f : Int) (r : Rcd) : List UInt8 := put f ++ (if f = 1 then put r.index else if f = 2 then put r.proc else if f = 3 then put r.seq else if f = 4 then putOp r.op else putS r.resp)
def encR (v : Int) (r : Rcd) : List UInt8 := put v ++ (fieldsOf v).flatMap fun f => putF f r
/-- Encode's error. -/
def encRe (v : Int) (r : Rcd) : Int := if v < 1 ∨ 4 ≤ v then 6 else if fitsR r = true then 0 else 1
/-- A field's value into a record; how many bytes. -/
def getF (r : Rcd) (f : Int) (b : List UInt8) : Rcd × Nat :=
  if f = 1 then ({ r with index := (get b).1 }, (get b).2)
  else if f = 2 then ({ r with proc := (get b).1 }, (get b).2)
  else if f = 3 then ({ r with seq := (get b).1 }, (get b).2)
  else if f = 4 then ({ r with op := (getOp b).1 }, (getOp b).2)
  else if f = 5 then ({ r with resp := (getS b).1 }, (getS b).2)
  else (r, 0)
def passB (b : List UInt8) : Nat := if (get b).2 = 0 ∨ b.length - (get b).2 < (get b).1 then 0 else (get b).2 + (get b).1
theorem getF_le (r : Rcd) (f : Int) (b : List UInt8) : (getF r f b).2 ≤ b.length := by
  have h1 := get_le b
  have h2 := getOp_le b
  have h3 := getS_le b
  unfold getF
  repeat' split
  all_goals simp only <;> omega
theorem passB_le (b : List UInt8) : passB b ≤ b.length := by
  have h1 := get_le b
  unfold passB
  split
  · omega
  · omega
/-- The fields of a version. -/
def readR (v : Int) (l : List Int) (last : Int) (r : Rcd) (b : List UInt8) : Rcd × Int :=
  if hb : b = [] then (if l ≠ [] then (r, 7) else if fitsR r = true then (r, 0) else (r, 1)) else
  if hk : (get b).2 = 0 ∨ ((get b).1 : Int) ≤ last then (r, 3) else
  if ((get b).1 : Int) ∈ l then
    (if (getF r (get b).1 (b.drop (get b).2)).2 = 0 then ((getF r (get b).1 (b.drop (get b).2)).1, 3)
     else readR v (l.erase ((get b).1 : Int)) (get b).1 (getF r (get b).1 (b.drop (get b).2)).1 ((b.drop (get b).2).drop (getF r (get b).1 (b.drop (get b).2)).2))
  else if (get b).1 < 16 ∨ v = 3 then (r, 7)
  else if passB (b.drop (get b).2) = 0 then (r, 3)
  else readR v l (get b).1 r ((b.drop (get b).2).drop (passB (b.drop (get b).2)))
  termination_by b.length
  decreasing_by
  all_goals
    have h1 := get_le b
    have h2 : b.length ≠ 0 := by simpa using hb
    simp only [List.length_drop]
    omega
/-- Decode: the record, the error. -/
def decR (b : List UInt8) : Rcd × Int :=
  if b = [] then (rcZ, 2) else
  if (get b).2 = 0 then (rcZ, 3) else
  if ((get b).1 : Int) < 1 ∨ 4 ≤ ((get b).1 : Int) then (rcZ, 6) else
  let r := readR (get b).1 (fieldsOf (get b).1) (-1) rcZ (b.drop (get b).2)
  if r.2 = 0 then (r.1, 0) else (rcZ, r.2)
theorem putF_len (f : Int) (r : Rcd) (h : fitsR r = true) : (putF f r).length ≤ 40 := by
  have hr := (fitsR_iff r).1 h
  have h0 := put_len f
  have h1 := put_len r.index
  have h2 := put_len r.proc
  have h3 := put_len r.seq
  have h4 := putOp_len r.op hr.2.2.2.2.2.2.1
  have h5 := putS_len r.resp (by omega) (by omega)
  unfold putF
  rw [List.length_append]
  repeat' split
  all_goals omega
theorem fieldsOf_len (v : Int) : (fieldsOf v).length ≤ 5 := by
  unfold fieldsOf
  repeat' split
  all_goals simp
theorem encR_len (v : Int) (r : Rcd) (h : fitsR r = true) : (encR v r).length ≤ 210 := by
  have h0 := put_len v
  have h1 : ∀ l : List Int, (l.flatMap fun f => putF f r).length ≤ 40 * l.length := by
    intro l
    induction l with
    | nil => simp
    | cons f l ih => have := putF_len f r h; simp only [List.flatMap_cons, List.length_append, List.length_cons]; omega
  have h2 := h1 (fieldsOf v)
  have h3 := fieldsOf_len v
  unfold encR
  rw [List.length_append]; omega
end Go.Proofs.YtdghbnkegahdnaaGreat.B
