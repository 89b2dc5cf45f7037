/- Snapshots as plain functions. No program in sight. -/
import Derived.Test.YtdghbnkegahdnaaGreatFrame
import Derived.Test.YtdghbnkegahdnaaGreatCodec
set_option linter.unusedVariables false
set_option linter.unusedSimpArgs false
namespace Go.Proofs.YtdghbnkegahdnaaGreat.B
open Go
structure Snp where
  index : Int
  st : St
  tab : List Ent
  deriving DecidableEq
def fitsE (e : Ent) : Bool := decide (0 ≤ e.proc) && decide (e.proc ≤ 64) && decide (0 ≤ e.seq) && decide (e.seq < 4611686018427387904) && decide (-1125899906842624 ≤ e.resp) && decide (e.resp ≤ 1125899906842624)
theorem fitsE_iff (e : Ent) : fitsE e = true ↔ 0 ≤ e.proc ∧ e.proc ≤ 64 ∧ 0 ≤ e.seq ∧ e.seq < 4611686018427387904 ∧ -1125899906842624 ≤ e.resp ∧ e.resp ≤ 1125899906842624 := by
  unfold fitsE
  simp only [Bool.and_eq_true, decide_eq_true_iff, and_assoc]
/-- Entries that may stand in a table whose last process is another one. -/
def tabA : Int → List Ent → Bool
  | _, [] => true
  | last, e :: r => if fitsE e = false ∨ e.proc ≤ last then false else tabA e.proc r
def mayN (s : Snp) : Bool := decide (0 ≤ s.index) && decide (s.index < 4611686018427387904) && mayS s.st && tabA (-1) s.tab
def entB (e : Ent) : List UInt8 := put e.proc ++ put e.seq ++ putS e.resp
def stB (s : St) : List UInt8 := if mayS s = true then encS s else []
def wholeN (s : Snp) : List UInt8 := put (stB s.st).length ++ stB s.st ++ put s.tab.length ++ s.tab.flatMap entB
def chunks (w : List UInt8) : List (List UInt8) := if h : w = [] then [] else w.take 64 :: chunks (w.drop 64)
  termination_by w.length
  decreasing_by
  have : 0 < w.length := List.length_pos_iff.2 h
  rw [List.length_drop]; omega
theorem chunks_nil : chunks [] = [] := by rw [chunks, dif_pos rfl]
theorem chunks_cons {w : List UInt8} (h : w ≠ []) : chunks w = w.take 64 :: chunks (w.drop 64) := by rw [chunks, dif_neg h]
def manB (index : Int) (w : List UInt8) : List UInt8 := 115 :: (put 3 ++ put index ++ put w.length ++ fix (sum w) 4)
def encN (s : Snp) : List UInt8 := encF (manB s.index (wholeN s)) ++ (chunks (wholeN s)).flatMap encF
/-- readManifest: index, size, sum, the error. -/
def readM (d : List UInt8) : Nat × Nat × Nat × Int :=
  if d.length = 0 ∨ d.headD 0 ≠ 115 then (0, 0, 0, 3) else
  let d0 := d.drop 1
  let v := get d0
  let d1 := d0.drop v.2
  let x := get d1
  let d2 := d1.drop x.2
  let y := get d2
  let d3 := d2.drop y.2
  if v.2 = 0 ∨ x.2 = 0 ∨ y.2 = 0 then (0, 0, 0, 3) else if v.1 ≠ 3 then (0, 0, 0, 6) else if d3.length ≠ 4 then (0, 0, 0, 3) else (x.1, y.1, fixed (d3.take 8), 0)
def cutN : List (List UInt8) → Bool
  | [] => true
  | d :: r => if d.length = 0 ∨ 64 < d.length ∨ (d.length < 64 ∧ r ≠ []) then false else cutN r
/-- entry: the entry, how many bytes. -/
def getE (b : List UInt8) : Ent × Nat :=
  let x := get b
  let b1 := b.drop x.2
  let y := get b1
  let b2 := b1.drop y.2
  let z := getS b2
  if x.2 = 0 ∨ y.2 = 0 ∨ z.2 = 0 then (⟨0, 0, 0⟩, 0) else (⟨x.1, y.1, z.1⟩, x.2 + y.2 + z.2)
theorem getE_le (b : List UInt8) : (getE b).2 ≤ b.length := by
  have h1 := get_le b
  have h2 := get_le (b.drop (get b).2)
  have h3 := getS_le ((b.drop (get b).2).drop (get (b.drop (get b).2)).2)
  simp only [List.length_drop] at h2 h3
  unfold getE
  simp only
  split
  · simp
  · simp only; omega
/-- So many entries that bytes begin with, and what is left. -/
def getEs : Nat → List UInt8 → Option (List Ent × List UInt8)
  | 0, b => some ([], b)
  | n + 1, b => if (getE b).2 = 0 then none else (getEs n (b.drop (getE b).2)).map fun r => ((getE b).1 :: r.1, r.2)
def snZ : Snp := ⟨0, stZ, []⟩
/-- What is read, behind its entries. -/
def endN (st : St) (er : Int) : Option (List Ent × List UInt8) → Snp × Int
  | none => (snZ, 3)
  | some p => if 0 < p.2.length then (snZ, 3) else (⟨0, st, p.1⟩, er)
def readN (w : List UInt8) : Snp × Int :=
  let g := get w
  if g.2 = 0 ∨ w.length < g.2 + g.1 then (snZ, 3) else
  let st := decS ((w.take (g.2 + g.1)).drop g.2)
  if st.2 = 3 then (snZ, 3) else
  let w1 := w.drop (g.2 + g.1)
  let h := get w1
  if h.2 = 0 ∨ w1.length < h.1 then (snZ, 3) else
  endN st.1 st.2 (getEs h.1 (w1.drop h.2))
def decN (b : List UInt8) : Snp × Int :=
  if (allF b).2 ≠ 0 then (snZ, (allF b).2) else
  match (allF b).1 with
  | [] => (snZ, 16)
  | d :: r =>
    let m := readM d
    if m.2.2.2 ≠ 0 then (snZ, m.2.2.2) else
    let w := r.flatten
    if w.length ≠ m.2.1 then (snZ, 16) else
    if cutN r = false then (snZ, 3) else
    if sum w ≠ m.2.2.1 then (snZ, 4) else
    let s := readN w
    if s.2 ≠ 0 then (snZ, s.2) else
    if mayN ⟨m.1, s.1.st, s.1.tab⟩ = false then (snZ, 1) else (⟨m.1, s.1.st, s.1.tab⟩, 0)
theorem entB_len (e : Ent) (h : fitsE e = true) : (entB e).length ≤ 30 := by
  have hf := (fitsE_iff e).1 h
  have := put_len e.proc
  have := put_len e.seq
  have := putS_len e.resp (by omega) (by omega)
  simp only [entB, List.length_append]; omega
theorem tabA_all : ∀ (t : List Ent) (last : Int), tabA last t = true → ∀ e ∈ t, fitsE e = true
  | [], _, _, e, he => by simp at he
  | x :: r, last, h, e, he => by
    rw [tabA] at h
    split at h
    · cases h
    · rename_i hn
      rcases List.mem_cons.1 he with rfl | he
      · cases hf : fitsE e
        · exact absurd (.inl hf) hn
        · rfl
      · exact tabA_all r _ h e he
theorem tabA_len : ∀ (t : List Ent) (last : Int), -1 ≤ last → tabA last t = true → t = [] ∨ (t.length : Int) ≤ 64 - last
  | [], _, _, _ => .inl rfl
  | x :: r, last, h0, h => by
    rw [tabA] at h
    split at h
    · cases h
    · rename_i hn
      have hx : fitsE x = true := by cases hf : fitsE x; exact absurd (.inl hf) hn; rfl
      have hx' := (fitsE_iff x).1 hx
      refine .inr ?_
      rcases tabA_len r x.proc (by omega) h with rfl | h2
      · simp; omega
      · simp; omega
theorem entsB_len : ∀ (t : List Ent), (∀ e ∈ t, fitsE e = true) → (t.flatMap entB).length ≤ 30 * t.length
  | [], _ => by simp
  | x :: r, h => by
    have h1 := entB_len x (h x (by simp))
    have h2 := entsB_len r (fun e he => h e (by simp [he]))
    simp only [List.flatMap_cons, List.length_append, List.length_cons]; omega
theorem entsB_take (t : List Ent) (k : Nat) (hk : k < t.length) : (t.take (k + 1)).flatMap entB = (t.take k).flatMap entB ++ entB t[k] := by
  rw [List.take_succ_eq_append_getElem hk, List.flatMap_append]; simp
theorem encF_len (d : List UInt8) : (encF d).length ≤ d.length + 14 := by
  unfold encF
  split
  · simp
  · rw [frameB_len]; have := put_len (d.length : Int); omega
theorem stB_len (s : St) : (stB s).length ≤ 1310 := by
  unfold stB; split
  · rename_i h; exact encS_len _ h
  · simp
theorem mayN_iff (s : Snp) : mayN s = true ↔ 0 ≤ s.index ∧ s.index < 4611686018427387904 ∧ mayS s.st = true ∧ tabA (-1) s.tab = true := by
  unfold mayN
  simp only [Bool.and_eq_true, decide_eq_true_iff, and_assoc]
theorem wholeN_len (s : Snp) (h : mayN s = true) : (wholeN s).length ≤ 4000 := by
  have hm := (mayN_iff s).1 h
  have h1 := stB_len s.st
  have h2 := entsB_len s.tab (tabA_all _ _ hm.2.2.2)
  have h3 := tabA_len s.tab (-1) (by omega) hm.2.2.2
  have h4 := put_len ((stB s.st).length : Int)
  have h5 := put_len (s.tab.length : Int)
  simp only [wholeN, List.length_append]
  rcases h3 with h3 | h3
  · have : s.tab.length = 0 := by rw [h3]; rfl
    omega
  · omega
theorem manB_len (ix : Int) (w : List UInt8) : (manB ix w).length ≤ 35 := by
  have h1 := put_len 3
  have h2 := put_len ix
  have h3 := put_len (w.length : Int)
  simp only [manB, List.length_cons, List.length_append, fix_len]; omega
end Go.Proofs.YtdghbnkegahdnaaGreat.B
