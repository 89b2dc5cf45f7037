/- Numbers, frames, operations and states as bytes: what is read is what was written, and the other way round. No program in sight. -/
import Derived.Test.YtdghbnkegahdnaaGreatFrame
import Derived.Test.YtdghbnkegahdnaaGreatCodec
set_option linter.unusedVariables false
set_option linter.unusedSimpArgs false
namespace Go.Proofs.YtdghbnkegahdnaaGreat.B
open Go

theorem b8_of (c : UInt8) : b8 c.toNat = c := by unfold b8; exact UInt8.ofNat_toNat
theorem decA_grp : ∀ (n i u : Nat) (r : List UInt8), n * 128 ^ i < 18446744073709551616 → (0 < i → 0 < n) → decA i u (grp n ++ r) = (u + n * 128 ^ i, i + (grp n).length) := by
  intro n
  induction n using Nat.strongRecOn with
  | _ n ih =>
    intro i u r h hz
    have hp : (128 : Nat) ^ 9 = 9223372036854775808 := by decide
    have hi : ∀ m, 0 < m → m * 128 ^ i < 18446744073709551616 → i ≤ 9 ∧ (i = 9 → m ≤ 1) := by
      intro m hm hlt
      have hi9 : i ≤ 9 := by
        rcases Nat.lt_or_ge 9 i with h9 | h9
        · have h1 : (128 : Nat) ^ 10 ≤ 128 ^ i := Nat.pow_le_pow_right (by decide) h9
          have h2 : (128 : Nat) ^ 10 = 1180591620717411303424 := by decide
          have h3 : 1 * 128 ^ i ≤ m * 128 ^ i := Nat.mul_le_mul_right _ hm
          omega
        · exact h9
      refine ⟨hi9, fun e => ?_⟩
      subst e
      rw [hp] at hlt
      omega
    by_cases hn : n < 128
    · have hb := b8_toNat n (by omega)
      rw [grp_lt n hn]
      show decA i u (b8 n :: r) = _
      rw [decA, hb]
      by_cases h0 : n = 0
      · have h1 : i = 0 := by omega
        subst h0 h1
        rfl
      · obtain ⟨h9, h91⟩ := hi n (by omega) h
        rw [if_neg (by omega), if_neg (by omega), if_pos hn, Nat.mod_eq_of_lt hn]
        rfl
    · have h1 : n / 128 * 128 ^ (i + 1) ≤ n * 128 ^ i := by
        rw [Nat.pow_succ, Nat.mul_comm (128 ^ i), ← Nat.mul_assoc]
        exact Nat.mul_le_mul_right _ (Nat.div_mul_le_self n 128)
      obtain ⟨h9, h91⟩ := hi n (by omega) h
      have hb := b8_toNat (n % 128 + 128) (by omega)
      rw [grp_ge n hn]
      show decA i u (b8 (n % 128 + 128) :: (grp (n / 128) ++ r)) = _
      rw [decA, hb, if_neg (by omega), if_neg (by omega), if_neg (by omega), ih (n / 128) (by omega) (i + 1) _ r (by omega) (by omega)]
      have e1 : (n % 128 + 128) % 128 = n % 128 := by omega
      have e2 : n % 128 * 128 ^ i + n / 128 * 128 ^ (i + 1) = n * 128 ^ i := by
        rw [Nat.pow_succ, Nat.mul_comm (128 ^ i), ← Nat.mul_assoc, ← Nat.add_mul]
        congr 1
        omega
      rw [e1, List.length_cons, Nat.add_assoc u, e2]
      congr 1
      omega
theorem grp_decA : ∀ (l : List UInt8) (i u v k : Nat), decA i u l = (v, k) → k ≠ 0 → ∃ n, l.take (k - i) = grp n ∧ v = u + n * 128 ^ i ∧ i < k ∧ (0 < i → 0 < n)
  | [], i, u, v, k, h, hk => by rw [decA] at h; cases h; exact absurd rfl hk
  | c :: r, i, u, v, k, h, hk => by
    rw [decA] at h
    split at h
    · cases h; exact absurd rfl hk
    · split at h
      · cases h; exact absurd rfl hk
      · rename_i h1 h2
        split at h
        · rename_i h3
          cases h
          refine ⟨c.toNat, ?_, by rw [Nat.mod_eq_of_lt h3], by omega, by omega⟩
          rw [show i + 1 - i = 1 by omega, grp_lt _ h3, b8_of]; rfl
        · rename_i h3
          obtain ⟨n, e1, e2, e3, e4⟩ := grp_decA r (i + 1) _ v k h hk
          have hc := c.toNat_lt
          have hn := e4 (by omega)
          refine ⟨c.toNat % 128 + 128 * n, ?_, ?_, by omega, by omega⟩
          · rw [grp_ge _ (by omega), show k - i = (k - (i + 1)) + 1 by omega, List.take_succ_cons, e1]
            congr 1
            · rw [show (c.toNat % 128 + 128 * n) % 128 + 128 = c.toNat by omega, b8_of]
            · congr 1; omega
          · rw [e2, Nat.pow_succ, Nat.add_mul, Nat.mul_comm (128 ^ i) 128, ← Nat.mul_assoc, Nat.mul_comm n 128]; omega
theorem dec_grp (n : Nat) (h : n < 18446744073709551616) (r : List UInt8) : dec (grp n ++ r) = (n, (grp n).length) := by
  have := decA_grp n 0 0 r (by omega) (by omega)
  unfold dec
  rw [this]
  simp
theorem grp_dec {l : List UInt8} (h : (dec l).2 ≠ 0) : grp (dec l).1 = l.take (dec l).2 := by
  obtain ⟨n, e1, e2, _, _⟩ := grp_decA l 0 0 _ _ (show decA 0 0 l = ((dec l).1, (dec l).2) from rfl) h
  rw [Nat.sub_zero] at e1
  rw [e1, e2]; simp
theorem put_nat (n : Nat) (h : n < 4611686018427387904) : put (n : Int) = grp n := by
  unfold put; rw [if_neg (by omega)]; rfl
theorem get_putN (n : Nat) (h : n < 4611686018427387904) (r : List UInt8) : get (put (n : Int) ++ r) = (n, (put (n : Int)).length) := by
  rw [put_nat n h]
  unfold get
  rw [dec_grp n (by omega), if_neg (by simp only; omega)]
theorem get_put (n : Int) (h0 : 0 ≤ n) (h : n < 4611686018427387904) (r : List UInt8) : get (put n ++ r) = (n.toNat, (put n).length) := by
  obtain ⟨m, rfl⟩ := Int.eq_ofNat_of_zero_le h0
  exact get_putN m (by omega) r
theorem put_get {l : List UInt8} (h : (get l).2 ≠ 0) : put ((get l).1 : Int) = l.take (get l).2 := by
  rw [put_nat _ (get_lt l)]
  unfold get at h ⊢
  split
  · rename_i h1; rw [if_pos h1] at h; exact absurd rfl h
  · rename_i h1; rw [if_neg h1] at h; exact grp_dec h
theorem put_pos (n : Int) (h0 : 0 ≤ n) (h : n < 4611686018427387904) : 0 < (put n).length := by
  unfold put; rw [if_neg (by omega)]; exact grp_pos _
theorem putS_pos (n : Int) : 0 < (putS n).length := grp_pos _
theorem getS_putS (n : Int) (h0 : -9223372036854775808 ≤ n) (h1 : n ≤ 9223372036854775807) (r : List UInt8) : getS (putS n ++ r) = (n, (putS n).length) := by
  have hp := putS_pos n
  unfold getS putS at *
  rw [dec_grp _ (zig_lt n h0 h1), if_neg (by simp only; omega), zag_zig]
theorem putS_getS {l : List UInt8} (h : (getS l).2 ≠ 0) : putS (getS l).1 = l.take (getS l).2 := by
  unfold getS at h ⊢
  split
  · rename_i h1; rw [if_pos h1] at h; exact absurd rfl h
  · rename_i h1
    show grp (zig (zag (dec l).1)) = _
    rw [zig_zag]; exact grp_dec h1
/-- What was read, and what is left. -/
theorem get_split {l : List UInt8} (h : (get l).2 ≠ 0) : l = put ((get l).1 : Int) ++ l.drop (get l).2 := by rw [put_get h, List.take_append_drop]
theorem getS_split {l : List UInt8} (h : (getS l).2 ≠ 0) : l = putS (getS l).1 ++ l.drop (getS l).2 := by rw [putS_getS h, List.take_append_drop]
theorem fixed_fix (k : Nat) : ∀ n, fixed (fix n k) = n % 256 ^ k := by
  induction k with
  | zero => intro n; simp [fix, fixed, Nat.mod_one]
  | succ k ih =>
    intro n
    simp only [fix, fixed, ih, b8_toNat _ (show n % 256 < 256 by omega)]
    rw [Nat.pow_succ, Nat.mul_comm (256 ^ k), Nat.mod_mul]
theorem fix_fixed : ∀ (l : List UInt8), fix (fixed l) l.length = l
  | [] => rfl
  | c :: r => by
    have hc := c.toNat_lt
    simp only [fixed, List.length_cons, fix]
    rw [show (c.toNat + 256 * fixed r) % 256 = c.toNat by omega, show (c.toNat + 256 * fixed r) / 256 = fixed r by omega, b8_of, fix_fixed r]

/-! ### frames -/
theorem grp_small (n : Nat) : (grp n).any small = true := by
  induction n using Nat.strongRecOn with
  | _ n ih =>
    by_cases h : n < 128
    · rw [grp_lt n h]
      simp only [List.any_cons, List.any_nil, Bool.or_false, small, b8_toNat n (by omega), decide_eq_true_iff]
      exact h
    · rw [grp_ge n h, List.any_cons, ih (n / 128) (by omega), Bool.or_true]
theorem encF_ok {d : List UInt8} (h : d.length ≤ 1048576) : encF d = frameB d := by unfold encF; rw [if_neg (by omega)]
theorem decF_encF (d r : List UInt8) (h : d.length ≤ 1048576) : decF (encF d ++ r) = (d, (encF d).length, 0) := by
  rw [encF_ok h]
  have hg := get_putN d.length (by omega) (d ++ fix (sum (put d.length ++ d)) 4 ++ r)
  have e : frameB d ++ r = put (d.length : Int) ++ (d ++ fix (sum (put d.length ++ d)) 4 ++ r) := by simp [frameB]
  have hl := frameB_len d
  have hp := put_pos (d.length : Int) (by omega) (by omega)
  have ho : openF (frameB d ++ r) = false := by
    rw [e]
    unfold openF
    rw [List.any_append, put_nat _ (by omega), grp_small]
    simp
  have t1 : (frameB d ++ r).take ((put (d.length : Int)).length + d.length) = put d.length ++ d := by
    have : frameB d ++ r = (put d.length ++ d) ++ (fix (sum (put d.length ++ d)) 4 ++ r) := by simp [frameB]
    rw [this, List.take_left' (by simp)]
  have t2 : ((frameB d ++ r).drop ((put (d.length : Int)).length + d.length)).take 4 = fix (sum (put d.length ++ d)) 4 := by
    have : frameB d ++ r = (put d.length ++ d) ++ (fix (sum (put d.length ++ d)) 4 ++ r) := by simp [frameB]
    rw [this, List.drop_left' (by simp), List.take_left' (by rw [fix_len])]
  unfold decF
  rw [ho, if_neg (by decide)]
  rw [← e] at hg
  rw [hg]
  simp only
  rw [if_neg (by omega), if_neg (by omega), if_neg (by rw [List.length_append]; omega), t1, t2, if_pos rfl, List.drop_left' rfl, hl]
theorem decF_ok {b d : List UInt8} {n : Nat} (h : decF b = (d, n, 0)) : d.length ≤ 1048576 ∧ b = encF d ++ b.drop n ∧ n = (encF d).length := by
  unfold decF at h
  split at h
  · cases h
  · split at h
    · cases h
    · rename_i h2
      split at h
      · cases h
      · rename_i h3
        split at h
        · cases h
        · rename_i h4
          split at h
          · rename_i h5
            simp only [Prod.mk.injEq] at h
            obtain ⟨hd, hn, _⟩ := h
            have hgl := get_le b
            have hdl : d.length = (get b).1 := by rw [← hd, List.length_drop, List.length_take]; omega
            have hpl : (put (d.length : Int)).length = (get b).2 := by rw [hdl, put_get h2, List.length_take]; omega
            have ht : b.take ((get b).2 + (get b).1) = put d.length ++ d := by
              rw [hdl, put_get h2, ← hd]
              have : b.take (get b).2 = (b.take ((get b).2 + (get b).1)).take (get b).2 := by rw [List.take_take]; congr 1; omega
              rw [this, List.take_append_drop]
            have hb : b = encF d ++ b.drop n := by
              rw [encF_ok (by omega)]
              have h6 : b.drop n = (b.drop ((get b).2 + (get b).1)).drop 4 := by rw [List.drop_drop, hn]
              rw [h6, frameB, ← ht, ← h5, List.append_assoc, List.take_append_drop, List.take_append_drop]
            exact ⟨by omega, hb, by rw [encF_ok (by omega), frameB_len, hpl]; omega⟩
          · cases h
theorem walkF_enc : ∀ (ds : List (List UInt8)) (r : List UInt8), (∀ d ∈ ds, d.length ≤ 1048576) → walkF (ds.flatMap encF ++ r) = (ds ++ (walkF r).1, (ds.flatMap encF).length + (walkF r).2.1, (walkF r).2.2)
  | [], r, _ => by simp
  | d :: ds, r, h => by
    have hd := h d (by simp)
    have e : (d :: ds).flatMap encF ++ r = encF d ++ (ds.flatMap encF ++ r) := by simp
    have hf := decF_encF d (ds.flatMap encF ++ r) hd
    have hne : encF d ++ (ds.flatMap encF ++ r) ≠ [] := by
      intro h0
      have := congrArg List.length h0
      rw [encF_ok hd, List.length_append, frameB_len] at this
      simp at this
    rw [e, walkF_ok hne (by rw [hf]), hf]
    simp only
    rw [List.drop_left' rfl, walkF_enc ds r (fun x hx => h x (by simp [hx]))]
    simp [Nat.add_assoc]
theorem allF_enc (ds : List (List UInt8)) (h : ∀ d ∈ ds, d.length ≤ 1048576) : allF (ds.flatMap encF) = (ds, 0) := by
  have := walkF_enc ds [] h
  rw [List.append_nil, walkF_nil] at this
  unfold allF
  rw [this]
  simp
theorem walkF_split (b : List UInt8) : (∀ d ∈ (walkF b).1, d.length ≤ 1048576) ∧ b = (walkF b).1.flatMap encF ++ b.drop (walkF b).2.1 ∧ (walkF b).2.1 = ((walkF b).1.flatMap encF).length ∧ ((walkF b).2.2 = 0 → (walkF b).2.1 = b.length) := by
  by_cases hb : b = []
  · subst hb; rw [walkF_nil]; simp
  · by_cases h : (decF b).2.2 = 0
    · have hd := decF_ok (b := b) (d := (decF b).1) (n := (decF b).2.1) (by rw [← h])
      have hp := decF_pos (b := b) (d := (decF b).1) (n := (decF b).2.1) (by rw [← h])
      have ih := walkF_split (b.drop (decF b).2.1)
      rw [walkF_ok hb h]
      refine ⟨?_, ?_, ?_, ?_⟩
      · intro d hm
        rcases List.mem_cons.1 hm with rfl | hm
        · exact hd.1
        · exact ih.1 d hm
      · simp only [List.flatMap_cons]
        have h2 := ih.2.1
        rw [List.drop_drop] at h2
        rw [List.append_assoc, ← h2]
        exact hd.2.1
      · simp only [List.flatMap_cons, List.length_append]
        have := hd.2.2; have := ih.2.2.1; omega
      · intro h0
        have := ih.2.2.2 h0
        rw [List.length_drop] at this
        simp only; omega
    · rw [walkF_no hb h]
      refine ⟨by simp, by simp, by simp, fun h0 => absurd h0 h⟩
  termination_by b.length
  decreasing_by rw [List.length_drop]; omega
theorem allF_ok {b : List UInt8} {ds : List (List UInt8)} (h : allF b = (ds, 0)) : b = ds.flatMap encF ∧ ∀ d ∈ ds, d.length ≤ 1048576 := by
  have hs := walkF_split b
  unfold allF at h
  split at h
  · rename_i h0
    simp only [Prod.mk.injEq, and_true] at h
    rw [h] at hs
    have h1 := hs.2.2.2 h0
    refine ⟨?_, hs.1⟩
    have := hs.2.1
    rw [h1, List.drop_length, List.append_nil] at this
    exact this
  · rename_i h0
    simp only [Prod.mk.injEq] at h
    exact absurd h.2 h0

theorem flat_enc : ∀ (ds : List (List UInt8)), (∀ d ∈ ds, d.length ≤ 1048576) → ds.flatten.length + 5 * ds.length ≤ (ds.flatMap encF).length
  | [], _ => by simp
  | d :: ds, h => by
    have h1 := h d (by simp)
    have h2 := flat_enc ds (fun x hx => h x (by simp [hx]))
    have h3 := put_pos (d.length : Int) (by omega) (by omega)
    rw [List.flatten_cons, List.flatMap_cons, List.length_append, List.length_append, List.length_cons, encF_ok h1, frameB_len]
    omega
theorem walkF_flat (b : List UInt8) : (walkF b).1.flatten.length ≤ b.length := by
  have hs := walkF_split b
  have h1 := flat_enc _ hs.1
  have h2 := congrArg List.length hs.2.1
  rw [List.length_append] at h2
  omega
theorem allF_flat (b : List UInt8) : (allF b).1.flatten.length ≤ b.length := by
  unfold allF
  split
  · exact walkF_flat b
  · simp
/-! ### operations, states -/
theorem getOp_put (o : Opn) (h : fitsO o = true) (r : List UInt8) : getOp (putOp o ++ r) = (o, (putOp o).length) := by
  have hf := (fitsO_iff o).1 h
  have h1 : get (putOp o ++ r) = (o.code.toNat, (put o.code).length) := by
    rw [putOp, List.append_assoc, List.append_assoc]; exact get_put _ hf.1 (by omega) _
  have d1 : (putOp o ++ r).drop (put o.code).length = putS o.a ++ (putS o.b ++ r) := by
    rw [putOp, List.append_assoc, List.append_assoc, List.drop_left' rfl]
  have h2 := getS_putS o.a (by omega) (by omega) (putS o.b ++ r)
  have h3 := getS_putS o.b (by omega) (by omega) r
  have p1 := put_pos o.code hf.1 (by omega)
  have p2 := putS_pos o.a
  have p3 := putS_pos o.b
  have h4 : getOp3 (putOp o ++ r) = (o, (put o.code).length, (putS o.a).length, (putS o.b).length) := by
    unfold getOp3
    simp only [h1, d1, h2, List.drop_left' rfl, h3]
    rw [Int.toNat_of_nonneg hf.1]
  unfold getOp
  simp only [h4]
  rw [if_neg (fun hc => by
    rcases hc with h5 | h5 | h5 | h5
    · omega
    · omega
    · omega
    · rw [h] at h5; cases h5)]
  simp [putOp]; omega
theorem getOp_ok {l : List UInt8} (h : (getOp l).2 ≠ 0) : fitsO (getOp l).1 = true ∧ l = putOp (getOp l).1 ++ l.drop (getOp l).2 := by
  unfold getOp at h ⊢
  simp only at h ⊢
  split
  · rename_i h1; rw [if_pos h1] at h; exact absurd rfl h
  · rename_i h1
    have hf : fitsO (getOp3 l).1 = true := by
      cases hc : fitsO (getOp3 l).1
      · exact absurd (.inr (.inr (.inr hc))) h1
      · rfl
    refine ⟨hf, ?_⟩
    simp only [getOp3] at h1 ⊢
    have e1 := get_split (l := l) (fun e => h1 (.inl e))
    have e2 := getS_split (l := l.drop (get l).2) (fun e => h1 (.inr (.inl e)))
    have e3 := getS_split (l := (l.drop (get l).2).drop (getS (l.drop (get l).2)).2) (fun e => h1 (.inr (.inr (.inl e))))
    simp only [putOp, List.append_assoc]
    simp only [List.drop_drop] at e2 e3 ⊢
    rw [← e3, ← e2]
    exact e1
theorem getMany_put : ∀ (ns : List Int) (r : List UInt8), (∀ n ∈ ns, -9223372036854775808 ≤ n ∧ n ≤ 9223372036854775807) → getMany ns.length (numsB ns ++ r) = (ns, r, true)
  | [], r, _ => rfl
  | n :: ns, r, h => by
    have hn := h n (by simp)
    have e : numsB (n :: ns) ++ r = putS n ++ (numsB ns ++ r) := by simp [numsB]
    have hp := putS_pos n
    rw [e, List.length_cons, getMany]
    simp only [getS_putS n hn.1 hn.2, List.drop_left' rfl, getMany_put ns r (fun m hm => h m (by simp [hm]))]
    simp [hp]
theorem getMany_ok : ∀ (k : Nat) (l : List UInt8), (getMany k l).2.2 = true → (getMany k l).1.length = k ∧ l = numsB (getMany k l).1 ++ (getMany k l).2.1
  | 0, l, _ => ⟨rfl, rfl⟩
  | k + 1, l, h => by
    rw [getMany] at h ⊢
    simp only [Bool.and_eq_true, decide_eq_true_iff] at h
    have ih := getMany_ok k (l.drop (getS l).2) h.2
    refine ⟨by simp only [List.length_cons]; omega, ?_⟩
    have e1 := getS_split (l := l) (by omega)
    simp only [numsB, List.flatMap_cons, List.append_assoc] at ih ⊢
    rw [← ih.2]
    exact e1
theorem sealN_lt {s : St} (h : mayS s = true) : 0 ≤ sealN s ∧ sealN s ≤ 3 := by
  have := mayS_all h
  unfold sealN; split <;> omega
theorem decS_encS (s : St) (h : mayS s = true) : decS (encS s) = (s, 0) := by
  have hm := mayS_all h
  have hs := sealN_lt h
  have e : encS s = put s.kind ++ (put (sealN s) ++ (put (s.l.length : Int) ++ (numsB s.l ++ []))) := by simp [encS]
  have g1 := get_put s.kind (by omega) (by omega) (put (sealN s) ++ (put (s.l.length : Int) ++ (numsB s.l ++ [])))
  have g2 := get_put (sealN s) (by omega) (by omega) (put (s.l.length : Int) ++ (numsB s.l ++ []))
  have g3 := get_putN s.l.length (by omega) (numsB s.l ++ [])
  have g4 := getMany_put s.l [] (fun n hn => by have := hm.1 n hn; omega)
  have p1 := put_pos s.kind (by omega) (by omega)
  have p2 := put_pos (sealN s) (by omega) (by omega)
  have p3 := put_pos (s.l.length : Int) (by omega) (by omega)
  have hst : (⟨(s.kind.toNat : Int), s.l, decide (0 < (sealN s).toNat), (((sealN s).toNat - 1 : Nat) : Int)⟩ : St) = s := by
    obtain ⟨kind, l, sealed, tt⟩ := s
    simp only [sealN] at hs hm ⊢
    cases sealed with
    | false =>
      have := hm.2.2.2.2.2.2 rfl
      simp [this]; omega
    | true =>
      simp only [if_true] at hs ⊢
      simp only [St.mk.injEq, true_and, decide_eq_true_iff]
      omega
  unfold decS
  rw [e]
  simp only [g1, List.drop_left' rfl, g2, g3, g4]
  rw [if_neg (by omega), hst, if_neg (by simp), if_neg (by rw [h]; decide)]
theorem decS_ok {l : List UInt8} {s : St} (h : decS l = (s, 0)) : mayS s = true ∧ encS s = l := by
  unfold decS at h
  simp only at h
  split at h
  · cases h
  · rename_i h1
    split at h
    · cases h
    · rename_i h2
      split at h
      · cases h
      · rename_i h3
        simp only [Prod.mk.injEq, and_true] at h
        have hmay : mayS s = true := by
          rw [← h]
          simpa using h3
        refine ⟨hmay, ?_⟩
        have e1 := get_split (l := l) (fun e => h1 (.inl e))
        have e2 := get_split (l := l.drop (get l).2) (fun e => h1 (.inr (.inl e)))
        have e3 := get_split (l := (l.drop (get l).2).drop (get (l.drop (get l).2)).2) (fun e => h1 (.inr (.inr (.inl e))))
        have e4 := getMany_ok (get ((l.drop (get l).2).drop (get (l.drop (get l).2)).2)).1 (((l.drop (get l).2).drop (get (l.drop (get l).2)).2).drop (get ((l.drop (get l).2).drop (get (l.drop (get l).2)).2)).2)
          (Classical.byContradiction fun e => h2 (.inl (by simpa using e)))
        have e5 : (getMany (get ((l.drop (get l).2).drop (get (l.drop (get l).2)).2)).1 (((l.drop (get l).2).drop (get (l.drop (get l).2)).2).drop (get ((l.drop (get l).2).drop (get (l.drop (get l).2)).2)).2)).2.1 = [] :=
          Classical.byContradiction fun e => h2 (.inr e)
        rw [e5, List.append_nil] at e4
        have hse : sealN s = ((get (l.drop (get l).2)).1 : Int) := by
          rw [← h]
          unfold sealN
          simp only [decide_eq_true_iff]
          split <;> omega
        unfold encS
        rw [hse, ← h]
        simp only
        rw [e4.1, ← e4.2, List.append_assoc, List.append_assoc, ← e3, ← e2]
        exact e1.symm
end Go.Proofs.YtdghbnkegahdnaaGreat.B
