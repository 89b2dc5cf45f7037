/- Objects as plain functions: operations and states that may be. No program in sight. -/
import Derived.WalkKit
set_option linter.unusedVariables false
set_option linter.unusedSimpArgs false
namespace Go.Proofs.YtdghbnkegahdnaaGreat.B
open Go
structure Opn where
  code : Int
  a : Int
  b : Int
  deriving DecidableEq
structure St where
  kind : Int
  l : List Int
  sealed : Bool
  to : Int
  deriving DecidableEq
structure Rcd where
  index : Int
  proc : Int
  seq : Int
  op : Opn
  resp : Int
  deriving DecidableEq
structure Ent where
  proc : Int
  seq : Int
  resp : Int
  deriving DecidableEq
def cutI (n : Int) : Int := if n < -1099511627776 then -1099511627776 else if 1099511627776 < n then 1099511627776 else n
theorem cutI_iff (n : Int) : (n == cutI n) = true ↔ -1099511627776 ≤ n ∧ n ≤ 1099511627776 := by
  rw [beq_iff_eq]; unfold cutI
  split
  · omega
  · split <;> omega
def fitsO (o : Opn) : Bool := decide (0 ≤ o.code) && decide (o.code ≤ 10) && (o.a == cutI o.a) && (o.b == cutI o.b)
theorem fitsO_iff (o : Opn) : fitsO o = true ↔ 0 ≤ o.code ∧ o.code ≤ 10 ∧ -1099511627776 ≤ o.a ∧ o.a ≤ 1099511627776 ∧ -1099511627776 ≤ o.b ∧ o.b ≤ 1099511627776 := by
  unfold fitsO
  rw [Bool.and_eq_true, Bool.and_eq_true, Bool.and_eq_true, cutI_iff, cutI_iff, decide_eq_true_iff, decide_eq_true_iff]
  constructor
  · rintro ⟨⟨⟨h1, h2⟩, h3, h4⟩, h5, h6⟩; exact ⟨h1, h2, h3, h4, h5, h6⟩
  · rintro ⟨h1, h2, h3, h4, h5, h6⟩; exact ⟨⟨⟨h1, h2⟩, h3, h4⟩, h5, h6⟩
def pairsA (least : Int) : Int → List Int → Bool
  | last, a :: b :: r => if a ≤ last ∨ 255 < a ∨ b < least ∨ 1099511627776 < b then false else pairsA least a r
  | _, _ => true
def pairsI (l : List Int) (least : Int) : Bool := pairsA least (-1) l && (decide (l.length % 2 = 0) && decide (l.length ≤ 128))
def uncut (n : Int) : Bool := n != cutI n
def mayS (s : St) : Bool :=
  if s.to < 0 ∨ 3 ≤ s.to ∨ (s.sealed = false ∧ s.to ≠ 0) then false
  else if s.kind = 0 ∨ s.kind = 1 then decide (s.l.length = 1) && !s.l.any uncut
  else if s.kind = 2 ∨ s.kind = 3 then decide (s.l.length ≤ 64) && !s.l.any uncut
  else if s.kind = 4 then pairsI s.l (-1099511627776)
  else if s.kind = 5 then pairsI s.l 0
  else false
def fitsR (r : Rcd) : Bool := decide (0 ≤ r.index) && decide (r.index < 4611686018427387904) && decide (0 ≤ r.proc) && decide (r.proc ≤ 64) && decide (0 ≤ r.seq) && decide (r.seq < 4611686018427387904) && fitsO r.op && decide (-1125899906842624 ≤ r.resp) && decide (r.resp ≤ 1125899906842624)
theorem fitsR_iff (r : Rcd) : fitsR r = true ↔ 0 ≤ r.index ∧ r.index < 4611686018427387904 ∧ 0 ≤ r.proc ∧ r.proc ≤ 64 ∧ 0 ≤ r.seq ∧ r.seq < 4611686018427387904 ∧ fitsO r.op = true ∧ -1125899906842624 ≤ r.resp ∧ r.resp ≤ 1125899906842624 := by
  unfold fitsR
  simp only [Bool.and_eq_true, decide_eq_true_iff, and_assoc]
theorem pairsA_odd (least last : Int) (l : List Int) (h : l.length < 2) : pairsA least last l = true := by
  match l, h with
  | [], _ => rfl
  | [a], _ => rfl
  | a :: b :: r, h => simp at h; omega
theorem pairsA_all (least : Int) (hl : -1099511627776 ≤ least) : ∀ (l : List Int) (last : Int), -1 ≤ last → l.length % 2 = 0 → pairsA least last l = true → ∀ n ∈ l, -1099511627776 ≤ n ∧ n ≤ 1099511627776
  | [], _, _, _, _, n, hn => by simp at hn
  | [a], _, _, h, _, _, _ => by simp at h
  | a :: b :: r, last, h0, hev, h, n, hn => by
    rw [pairsA] at h
    by_cases hb : a ≤ last ∨ 255 < a ∨ b < least ∨ 1099511627776 < b
    · rw [if_pos hb] at h; cases h
    · rw [if_neg hb] at h
      rcases List.mem_cons.1 hn with rfl | hn
      · omega
      · rcases List.mem_cons.1 hn with rfl | hn
        · omega
        · exact pairsA_all least hl r a (by omega) (by simp at hev; omega) h n hn
theorem any_uncut {l : List Int} (h : (!l.any uncut) = true) : ∀ n ∈ l, -1099511627776 ≤ n ∧ n ≤ 1099511627776 := by
  intro n hn
  have h1 : l.any uncut = false := by simpa using h
  have h2 := List.any_eq_false.1 h1 n hn
  have h3 : (n == cutI n) = true := by
    rw [beq_iff_eq]
    unfold uncut at h2
    simpa using h2
  exact (cutI_iff n).1 h3
theorem mayS_all {s : St} (h : mayS s = true) : (∀ n ∈ s.l, -1099511627776 ≤ n ∧ n ≤ 1099511627776) ∧ s.l.length ≤ 128 ∧ 0 ≤ s.kind ∧ s.kind ≤ 5 ∧ 0 ≤ s.to ∧ s.to ≤ 2 ∧ (s.sealed = false → s.to = 0) := by
  unfold mayS at h
  split at h
  · cases h
  · rename_i h0
    have hs : s.sealed = false → s.to = 0 := fun e => Classical.byContradiction fun h' => h0 (.inr (.inr ⟨e, h'⟩))
    have ht : 0 ≤ s.to ∧ s.to ≤ 2 := by omega
    split at h
    · rename_i hk
      rw [Bool.and_eq_true, decide_eq_true_iff] at h
      exact ⟨any_uncut h.2, by omega, by omega, by omega, ht.1, ht.2, hs⟩
    · split at h
      · rename_i hk
        rw [Bool.and_eq_true, decide_eq_true_iff] at h
        exact ⟨any_uncut h.2, by omega, by omega, by omega, ht.1, ht.2, hs⟩
      · split at h
        · rename_i hk
          unfold pairsI at h
          rw [Bool.and_eq_true, Bool.and_eq_true, decide_eq_true_iff, decide_eq_true_iff] at h
          exact ⟨pairsA_all _ (by omega) _ _ (by omega) h.2.1 h.1, h.2.2, by omega, by omega, ht.1, ht.2, hs⟩
        · split at h
          · rename_i hk
            unfold pairsI at h
            rw [Bool.and_eq_true, Bool.and_eq_true, decide_eq_true_iff, decide_eq_true_iff] at h
            exact ⟨pairsA_all _ (by omega) _ _ (by omega) h.2.1 h.1, h.2.2, by omega, by omega, ht.1, ht.2, hs⟩
          · cases h
end Go.Proofs.YtdghbnkegahdnaaGreat.B
