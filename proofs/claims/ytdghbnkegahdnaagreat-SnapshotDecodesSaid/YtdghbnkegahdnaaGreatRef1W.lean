/- The walks of the references of numbers and of the checksum. -/
import Derived.Test.YtdghbnkegahdnaaGreatCrcW
set_option linter.unusedVariables false
set_option linter.unusedSimpArgs false
set_option maxRecDepth 100000
set_option maxHeartbeats 2000000
namespace Go.Proofs.YtdghbnkegahdnaaGreat.B
open Go Go.RowKit Go.Proofs

theorem ref_step (k v n one : Nat) (hk : k ≤ 9) (hv : v < 128 ^ k) (ho : one = 128 ^ k) (hn : n < 256) (h9 : k = 9 → n % 128 ≤ 1) :
    IntKind.u64.wrap ((v : Int) + IntKind.u64.wrap ((n : Int) % 128 * (one : Int))) = ((v + n % 128 * 128 ^ k : Nat) : Int) := by
  have hp : (128 : Nat) ^ 9 = 9223372036854775808 := by decide
  have hlt : n % 128 * 128 ^ k ≤ 9223372036854775808 := by
    by_cases h : k = 9
    · subst h
      have := h9 rfl
      rw [hp]; omega
    · have h8 : (128 : Nat) ^ k ≤ 128 ^ 8 := Nat.pow_le_pow_right (by decide) (by omega)
      have h7 : n % 128 * 128 ^ k ≤ 127 * 128 ^ 8 := Nat.mul_le_mul (by omega) h8
      have h6 : (127 : Nat) * 128 ^ 8 ≤ 9223372036854775808 := by decide
      omega
  have hv2 : (128 : Nat) ^ k ≤ 128 ^ 9 := Nat.pow_le_pow_right (by decide) hk
  have e : (n : Int) % 128 * (one : Int) = ((n % 128 * 128 ^ k : Nat) : Int) := by rw [ho]; push_cast; rfl
  rw [e, wrap_u64 _ (by omega), show (v : Int) + ((n % 128 * 128 ^ k : Nat) : Int) = ((v + n % 128 * 128 ^ k : Nat) : Int) by push_cast; rfl, wrap_u64 _ (by omega)]
theorem one_step (k one : Nat) : ∃ o : Nat, IntKind.u64.wrap ((one : Int) * 128) = (o : Int) ∧ (one = 128 ^ k → k ≤ 8 → o = 128 ^ (k + 1)) := by
  refine ⟨(one * 128) % 18446744073709551616, ?_, fun h hk => ?_⟩
  · simp [IntKind.wrap, IntKind.signed, IntKind.bits]
  · have h8 : (128 : Nat) ^ (k + 1) ≤ 128 ^ 9 := Nat.pow_le_pow_right (by decide) (by omega)
    have hp : (128 : Nat) ^ 9 = 9223372036854775808 := by decide
    rw [h, ← Nat.pow_succ, Nat.mod_eq_of_lt (by omega)]
theorem ref01_read (A : Option Addr) (c : Nat) (l : List UInt8) (w : World) (hr : Rd eB w A c l) :
    Calls Tryz.prog 115 #[.slice A l.length c] w fun e w' => e = .returned (.tuple #[.int .u64 (dec l).1, .int .i64 (dec l).2]) ∧ w = w' := by
  have hl := hr.lt63
  go_enter Tryz.func115, Tryz.ntmps115
  go_wp2
  go_loop [4, 5, 6] (fun u o i => ∃ (k v one : Nat), k ≤ l.length ∧ k ≤ 10 ∧ Hid (v < 128 ^ k) ∧ Hid (k ≤ 9 → one = 128 ^ k) ∧ i = .int .i64 k ∧ u = .int .u64 v ∧ o = .int .u64 one ∧ Hid (dec l = decA k v (l.drop k))) (fun _ _ i => (10 - intOf i).toNat)
  case atStart => exact ⟨0, 0, 1, by omega, by omega, by simp [Hid], fun _ => rfl, rfl, rfl, rfl, by simp [Hid, dec]⟩
  case round =>
    obtain ⟨k, v, one, hk, hk10, hv, ho, rfl, rfl, rfl, hd⟩ := hrel
    by_cases hlt : k < l.length ∧ k < 10
    · obtain ⟨hkl, hk9⟩ := hlt
      obtain ⟨ad, rfl, hc⟩ := hr.at1 rfl hkl rfl
      have hn := l[k].toNat_lt
      have hd2 : Hid (dec l = decA k v (l[k] :: l.drop (k + 1))) := by rw [List.getElem_cons_drop]; exact hd
      clear hd
      obtain ⟨b, hb⟩ : ∃ b, b = l[k] := ⟨_, rfl⟩
      rw [← hb] at hc hn hd2
      have Hb := Lib.hid hb; clear hb
      obtain ⟨n, hnn⟩ : ∃ n, n = b.toNat := ⟨_, rfl⟩
      rw [← hnn] at hc hn
      have Hn := Lib.hid hnn; clear hnn
      have hdec : Hid (dec l = if (k = 9 ∧ 1 < n) ∨ (n = 0 ∧ 0 < k) then (0, 0) else if n < 128 then (v + n % 128 * 128 ^ k, k + 1) else decA (k + 1) (v + n % 128 * 128 ^ k) (l.drop (k + 1))) := by
        have h := hd2.out; rw [decA, if_neg (by omega), ← Hn.out] at h; exact h
      clear hd2
      have hcase : (((k : Int) == 9) = true ∧ 1 < (n : Int) % 128) ∨
          ((((k : Int) == 9) = true ∧ ¬ 1 < (n : Int) % 128 ∧ (n : Int) < 128 ∧ 0 < k ∧ ((n : Int) % 128 == 0) = true)) ∨ ((((k : Int) == 9) = true ∧ ¬ 1 < (n : Int) % 128 ∧ (n : Int) < 128 ∧ 0 < k ∧ ((n : Int) % 128 == 0) = false)) ∨ ((((k : Int) == 9) = true ∧ ¬ 1 < (n : Int) % 128 ∧ ¬ (n : Int) < 128)) ∨
          ((((k : Int) == 9) = false ∧ (n : Int) < 128 ∧ 0 < k ∧ ((n : Int) % 128 == 0) = true)) ∨ ((((k : Int) == 9) = false ∧ (n : Int) < 128 ∧ 0 < k ∧ ((n : Int) % 128 == 0) = false)) ∨ ((((k : Int) == 9) = false ∧ (n : Int) < 128 ∧ ¬ 0 < k)) ∨ ((((k : Int) == 9) = false ∧ ¬ (n : Int) < 128)) := by
        simp only [beq_iff_eq, beq_eq_false_iff_ne]
        omega
      rcases hcase with ⟨e1, e2⟩ | ⟨e1, e2, e3, e4, e5⟩ | ⟨e1, e2, e3, e4, e5⟩ | ⟨e1, e2, e3⟩ | ⟨e1, e3, e4, e5⟩ | ⟨e1, e3, e4, e5⟩ | ⟨e1, e3, e4⟩ | ⟨e1, e3⟩
      all_goals
        have hst : Hid ((k = 9 → n % 128 ≤ 1) → IntKind.u64.wrap ((v : Int) + IntKind.u64.wrap ((n : Int) % 128 * (one : Int))) = ((v + n % 128 * 128 ^ k : Nat) : Int)) := fun h => ref_step k v n one (by omega) hv.out (ho.out (by omega)) (by omega) h
        have hos := Lib.hid (one_step k one)
        clear hr
        go_wp2_with fail
      · go_ret2
        exact ⟨by
          have h := hdec.out
          rw [if_pos (by simp only [beq_iff_eq, beq_eq_false_iff_ne] at *; omega)] at h
          rw [h]; rfl, rfl⟩
      · go_ret2
        exact ⟨by
          have h := hdec.out
          rw [if_pos (by simp only [beq_iff_eq, beq_eq_false_iff_ne] at *; omega)] at h
          rw [h]; rfl, rfl⟩
      · go_ret2
        have h := hdec.out
        rw [if_neg (by simp only [beq_iff_eq, beq_eq_false_iff_ne] at *; omega), if_pos (by omega)] at h
        exact ⟨by rw [h]; exact ret2 (vint (hst.out (by simp only [beq_iff_eq, beq_eq_false_iff_ne] at *; omega))) rfl, rfl⟩
      · have h := hdec.out
        rw [if_pos (by simp only [beq_iff_eq, beq_eq_false_iff_ne] at *; omega)] at h
        obtain ⟨o, ho1, ho2⟩ := hos.out
        have k9 : k = 9 := by simp only [beq_iff_eq, beq_eq_false_iff_ne] at *; omega
        refine ⟨⟨k + 1, v + n % 128 * 128 ^ k, o, by omega, by omega, ?_, fun hk => ho2 (ho.out (by omega)) (by omega), rfl, vint (hst.out (by simp only [beq_iff_eq, beq_eq_false_iff_ne] at *; omega)), vint ho1, by rw [Hid, h, decA_ten _ _ _ (by omega)]⟩, by simp [intOf]; omega⟩
        have hv' := hv.out
        show _ < 128 ^ (k + 1)
        have : n % 128 * 128 ^ k ≤ 127 * 128 ^ k := Nat.mul_le_mul_right _ (by omega)
        rw [Nat.pow_succ]; omega
      · go_ret2
        exact ⟨by
          have h := hdec.out
          rw [if_pos (by simp only [beq_iff_eq, beq_eq_false_iff_ne] at *; omega)] at h
          rw [h]; rfl, rfl⟩
      · go_ret2
        have h := hdec.out
        rw [if_neg (by simp only [beq_iff_eq, beq_eq_false_iff_ne] at *; omega), if_pos (by omega)] at h
        exact ⟨by rw [h]; exact ret2 (vint (hst.out (by simp only [beq_iff_eq, beq_eq_false_iff_ne] at *; omega))) rfl, rfl⟩
      · go_ret2
        have h := hdec.out
        rw [if_neg (by simp only [beq_iff_eq, beq_eq_false_iff_ne] at *; omega), if_pos (by omega)] at h
        exact ⟨by rw [h]; exact ret2 (vint (hst.out (by simp only [beq_iff_eq, beq_eq_false_iff_ne] at *; omega))) rfl, rfl⟩
      · have h := hdec.out
        rw [if_neg (by simp only [beq_iff_eq, beq_eq_false_iff_ne] at *; omega), if_neg (by omega)] at h
        obtain ⟨o, ho1, ho2⟩ := hos.out
        refine ⟨⟨k + 1, v + n % 128 * 128 ^ k, o, by omega, by omega, ?_, fun hk => ho2 (ho.out (by omega)) (by omega), rfl, vint (hst.out (by simp only [beq_iff_eq, beq_eq_false_iff_ne] at *; omega)), vint ho1, h⟩, by simp [intOf]; omega⟩
        have hv' := hv.out
        show _ < 128 ^ (k + 1)
        have : n % 128 * 128 ^ k ≤ 127 * 128 ^ k := Nat.mul_le_mul_right _ (by omega)
        rw [Nat.pow_succ]; omega
    · have hd2 : dec l = (0, 0) := by
        rw [hd.out]
        rcases Nat.lt_or_ge k 10 with h | h
        · rw [List.drop_of_length_le (by omega)]; rfl
        · exact decA_ten _ _ _ h
      have HD := Lib.hid hd2; clear hd2
      by_cases h1 : k < l.length
      · have h2 : ¬ k < 10 := fun h => hlt ⟨h1, h⟩
        clear hlt
        go_wp2
        go_ret2
        exact ⟨by rw [HD.out]; rfl, rfl⟩
      · clear hlt
        go_wp2
        go_ret2
        exact ⟨by rw [HD.out]; rfl, rfl⟩
theorem decA_zero : ∀ (l : List UInt8) (i u : Nat), (decA i u l).2 = 0 → (decA i u l).1 = 0
  | [], i, u, _ => rfl
  | c :: r, i, u, h => by
    rw [decA] at h ⊢
    split
    · rfl
    · rename_i h1
      rw [if_neg h1] at h
      split
      · rfl
      · rename_i h2
        rw [if_neg h2] at h
        split
        · rename_i h3
          rw [if_pos h3] at h
          simp at h
        · rename_i h3
          rw [if_neg h3] at h
          exact decA_zero r _ _ h
theorem dec_zero (l : List UInt8) (h : (dec l).2 = 0) : (dec l).1 = 0 := decA_zero l 0 0 h
theorem ref01_Get (A : Option Addr) (c : Nat) (l : List UInt8) (w : World) (hr : Rd eB w A c l) :
    Calls Tryz.prog 72 #[.slice A l.length c] w fun e w' => e = .returned (.tuple #[.int .i64 (get l).1, .int .i64 (get l).2]) ∧ w = w' := by
  obtain ⟨u, hu⟩ : ∃ u, u = (dec l).1 := ⟨_, rfl⟩
  obtain ⟨k, hk⟩ : ∃ k, k = (dec l).2 := ⟨_, rfl⟩
  have hlt : u < 18446744073709551616 := by rw [hu]; exact dec_lt l
  have hz : k = 0 → u = 0 := by
    intro h0
    rw [hu]
    exact dec_zero l (by rw [← hk]; exact h0)
  have hg : get l = if 4611686018427387904 ≤ u then (0, 0) else (u, k) := by unfold get; rw [← hu, hk, hu]
  have Hu := Lib.hid hu; have Hk := Lib.hid hk
  clear hu hk
  by_cases h0 : k = 0
  · have e0 : ((k : Int) == 0) = true := by rw [h0]; rfl
    have hs : Hid (get l = (0, 0)) := by rw [Hid, hg, hz h0, h0]; rfl
    clear h0 hg hz
    go_enter Tryz.func72, Tryz.ntmps72
    go_wp2_with (go_at_call 115; go_loud (refine (ref01_read A c l _ hr).mono ?_); rintro e w1 ⟨rfl, rfl⟩; rw [← Hu.out, ← Hk.out])
    go_ret2
    exact ⟨by rw [hs.out]; rfl, rfl⟩
  · have e0 : ((k : Int) == 0) = false := by rw [beq_eq_false_iff_ne]; omega
    clear h0 hz
    by_cases h1 : 4611686018427387904 ≤ u
    · have hs : Hid (get l = (0, 0)) := by rw [Hid, hg, if_pos h1]
      have h1' : 4611686018427387904 ≤ (u : Int) := by omega
      clear hg
      go_enter Tryz.func72, Tryz.ntmps72
      go_wp2_with (go_at_call 115; go_loud (refine (ref01_read A c l _ hr).mono ?_); rintro e w1 ⟨rfl, rfl⟩; rw [← Hu.out, ← Hk.out])
      go_ret2
      exact ⟨by rw [hs.out]; rfl, rfl⟩
    · have hs : Hid (get l = (u, k)) := by rw [Hid, hg, if_neg h1]
      have h1' : decide ((4611686018427387904 : Int) ≤ (u : Int)) = false := by rw [decide_eq_false_iff_not]; omega
      have h2 : (u : Int) ≤ 4611686018427387903 := by omega
      clear hg h1 hlt
      go_enter Tryz.func72, Tryz.ntmps72
      go_wp2_with (go_at_call 115; go_loud (refine (ref01_read A c l _ hr).mono ?_); rintro e w1 ⟨rfl, rfl⟩; rw [← Hu.out, ← Hk.out])
      go_ret2
      exact ⟨by rw [hs.out]; rfl, rfl⟩
theorem ref01_Zag (u : Nat) (w : World) (h : u < 18446744073709551616) :
    Calls Tryz.prog 147 #[.int .u64 u] w fun e w' => e = .returned (.int .i64 (zag u)) ∧ w = w' := by
  by_cases h2 : u % 2 = 0
  · have e0 : ((u : Int) % 2 == 0) = true := by rw [beq_iff_eq]; omega
    have hs : Hid (zag u = ((u / 2 : Nat) : Int)) := by rw [Hid, zag, if_pos h2]
    clear h2
    go_enter Tryz.func147, Tryz.ntmps147
    go_wp2_with fail
    go_ret
    exact ⟨rint (by rw [hs.out]; first | rfl | omega), rfl⟩
  · have e0 : ((u : Int) % 2 == 0) = false := by rw [beq_eq_false_iff_ne]; omega
    have hs : Hid (zag u = -((u / 2 : Nat) : Int) - 1) := by rw [Hid, zag, if_neg h2]
    clear h2
    go_enter Tryz.func147, Tryz.ntmps147
    go_wp2_with fail
    go_ret
    exact ⟨rint (by rw [hs.out]; first | rfl | omega), rfl⟩
theorem ref01_GetSigned (A : Option Addr) (c : Nat) (l : List UInt8) (w : World) (hr : Rd eB w A c l) :
    Calls Tryz.prog 117 #[.slice A l.length c] w fun e w' => e = .returned (.tuple #[.int .i64 (getS l).1, .int .i64 (getS l).2]) ∧ w = w' := by
  have hlt := dec_lt l
  by_cases h0 : (dec l).2 = 0
  · have e0 : (((dec l).2 : Int) == 0) = true := by rw [h0]; rfl
    have hs : Hid (getS l = (0, 0)) := by rw [Hid, getS, if_pos h0]
    clear h0
    go_enter Tryz.func117, Tryz.ntmps117
    go_wp2_with (go_at_call 115; go_loud (refine (ref01_read A c l _ hr).mono ?_); rintro e w1 ⟨rfl, rfl⟩)
    go_ret2
    exact ⟨by rw [hs.out]; rfl, rfl⟩
  · have e0 : (((dec l).2 : Int) == 0) = false := by rw [beq_eq_false_iff_ne]; omega
    have hs : Hid (getS l = (zag (dec l).1, (dec l).2)) := by rw [Hid, getS, if_neg h0]
    clear h0
    go_enter Tryz.func117, Tryz.ntmps117
    go_wp2_with (first
      | (go_at_call 115; go_loud (refine (ref01_read A c l _ hr).mono ?_); rintro e w1 ⟨rfl, rfl⟩)
      | (go_at_call 147; go_loud (refine (ref01_Zag _ _ hlt).mono ?_); rintro e w2 ⟨rfl, rfl⟩))
    go_ret2
    exact ⟨by rw [hs.out]; rfl, rfl⟩
theorem fixed_down (l : List UInt8) (j : Nat) (hj : j < l.length) : fixed (l.drop j) = fixed (l.drop (j + 1)) * 256 + l[j].toNat := by
  rw [List.drop_eq_getElem_cons hj, fixed]; omega
theorem ref01_Fixed (A : Option Addr) (c : Nat) (l : List UInt8) (w : World) (hr : Rd eB w A c l) :
    Calls Tryz.prog 73 #[.slice A l.length c] w fun e w' => e = .returned (.int .u64 (fixed (l.take 8))) ∧ w = w' := by
  have hl := hr.lt63
  obtain ⟨y, hy⟩ : ∃ y, y = l.take 8 := ⟨_, rfl⟩
  have hyl : y.length ≤ 8 := by rw [hy, List.length_take]; omega
  have hyt : ∀ j (h : j < y.length), ∃ h' : j < l.length, y[j] = l[j] := fun j h => by
    subst hy
    rw [List.length_take] at h
    exact ⟨by omega, by simp⟩
  have Hyt := Lib.hid hyt
  have hyn : ∀ j, j < 8 → (j < y.length ↔ j < l.length) := fun j h => by rw [hy, List.length_take]; omega
  have Hyn := Lib.hid hyn
  have Hy := Lib.hid hy
  clear hyt hyn hy
  go_enter Tryz.func73, Tryz.ntmps73
  go_wp2
  go_loop [3, 4] (fun u i => ∃ k : Nat, k ≤ 8 ∧ i = .int .i64 ((k : Int) - 1) ∧ u = .int .u64 (fixed (y.drop k))) (fun _ i => (intOf i + 1).toNat)
  case atStart => exact ⟨8, by omega, rfl, by rw [List.drop_of_length_le hyl]; rfl⟩
  case round =>
    obtain ⟨k, hk, rfl, rfl⟩ := hrel
    rcases Nat.eq_zero_or_pos k with h0 | h0
    · subst h0
      go_wp2
      go_ret
      exact ⟨by rw [← Hy.out]; rfl, rfl⟩
    · obtain ⟨j, rfl⟩ : ∃ j, k = j + 1 := ⟨k - 1, by omega⟩
      have ej : (((j + 1 : Nat) : Int) - 1) = (j : Int) := by omega
      rw [ej]
      clear h0 ej
      by_cases hj : j < l.length
      · have hjy : j < y.length := (Hyn.out j (by omega)).2 hj
        obtain ⟨ad, rfl, hc⟩ := hr.at1 rfl hj rfl
        obtain ⟨_, heq⟩ := Hyt.out j hjy
        have hd := fixed_down y j hjy
        rw [heq] at hd
        have hlt := fixed_lt (y.drop j)
        rw [List.length_drop] at hlt
        have hp : (256 : Nat) ^ (y.length - j) ≤ 256 ^ 8 := Nat.pow_le_pow_right (by decide) (by omega)
        have hp8 : (256 : Nat) ^ 8 = 18446744073709551616 := by decide
        obtain ⟨v, hv⟩ : ∃ v, v = fixed (y.drop (j + 1)) := ⟨_, rfl⟩
        obtain ⟨n, hn⟩ : ∃ n, n = l[j].toNat := ⟨_, rfl⟩
        rw [← hv, ← hn] at hd
        rw [← hn] at hc
        have hn8 : n < 256 := by rw [hn]; exact l[j].toNat_lt
        have hs : Hid (IntKind.u64.wrap (IntKind.u64.wrap ((v : Int) * 256) + (n : Int)) = ((fixed (y.drop j) : Nat) : Int)) := by
          rw [Hid, show (v : Int) * 256 = ((v * 256 : Nat) : Int) by push_cast; rfl, wrap_u64 _ (by omega), show ((v * 256 : Nat) : Int) + (n : Int) = ((v * 256 + n : Nat) : Int) by push_cast; rfl, wrap_u64 _ (by omega), hd]
        rw [← hv]
        have Hv := Lib.hid hv; have Hn := Lib.hid hn
        clear hd hlt hp hp8 hv hn heq
        go_wp2_with fail
        go_round
        case rel => exact ⟨j, by omega, rfl, vint hs.out⟩
        case measure => simp [intOf]
      · have hjy : y.length ≤ j := by have := Hyn.out j (by omega); omega
        have hs : Hid (fixed (y.drop (j + 1)) = fixed (y.drop j)) := by rw [Hid, List.drop_of_length_le hjy, List.drop_of_length_le (by omega)]
        clear hjy
        go_wp2_with fail
        go_round
        case rel => exact ⟨j, by omega, rfl, by rw [hs.out]⟩
        case measure => simp [intOf]
theorem crcS_two (x : Nat) (h : x < 4294967296) : bits .xor .u32 ((x : Int) / 2) 2197175160 = ((x / 2 ^^^ 2197175160 : Nat) : Int) := by
  rw [show (x : Int) / 2 = ((x / 2 : Nat) : Int) from by omega]
  exact bits_xor .u32 rfl _ _ (by simp [IntKind.bits]; omega) (by simp [IntKind.bits])
theorem ref02_Entry (c : Nat) (hc : c < 256) (w : World) : Calls Tryz.prog 116 #[.int .u8 (c : Int)] w fun e w' => e = .returned (.int .u32 (crcN 8 c)) ∧ w = w' := by
  go_enter Tryz.func116, Tryz.ntmps116
  go_wp2
  go_loop [3, 4] (fun x i => ∃ m : Nat, i = .int .i64 m ∧ m ≤ 8 ∧ x = .int .u32 (crcN m c)) (fun _ i => (8 - intOf i).toNat)
  case atStart => exact ⟨0, rfl, by omega, rfl⟩
  case round =>
    obtain ⟨m, rfl, hm, rfl⟩ := hrel
    have hb := crcN_lt m c (by omega)
    by_cases hm8 : m < 8
    · obtain ⟨x, hx⟩ : ∃ x, x = crcN m c := ⟨_, rfl⟩
      have hst : crcN (m + 1) c = if x % 2 = 1 then x / 2 ^^^ 2197175160 else x / 2 := by rw [hx]; rfl
      rw [← hx] at hb ⊢
      have Hx := Lib.hid hx
      clear hx
      by_cases h2 : x % 2 = 1
      · have e2 : ((x : Int) % 2 == 1) = true := by rw [beq_iff_eq]; omega
        have hs : Hid (crcN (m + 1) c = x / 2 ^^^ 2197175160) := by rw [Hid, hst, if_pos h2]
        have h7 := Lib.hid (crcS_two x hb)
        clear h2 hst
        go_wp2_with fail
        go_round
        case rel => exact ⟨m + 1, rfl, by omega, vint (by rw [hs.out]; exact h7.out)⟩
        case measure => simp [intOf]; omega
      · have e2 : ((x : Int) % 2 == 1) = false := by rw [beq_eq_false_iff_ne]; omega
        have hs : Hid (crcN (m + 1) c = x / 2) := by rw [Hid, hst, if_neg h2]
        clear h2 hst
        go_wp2_with fail
        go_round
        case rel => exact ⟨m + 1, rfl, by omega, vint (by rw [hs.out]; omega)⟩
        case measure => simp [intOf]; omega
    · obtain rfl : m = 8 := by omega
      go_wp2
      go_ret
      exact ⟨rfl, rfl⟩
theorem ref02_More (s : Nat) (z : Int) (hz : z = s) (hs : s < 4294967296) (A : Option Addr) (c : Nat) (l : List UInt8) (w : World) (hr : Rd eB w A c l) :
    Calls Tryz.prog 74 #[.int .u32 z, .slice A l.length c] w fun e w' => e = .returned (.int .u32 (more s l)) ∧ w = w' := by
  subst hz
  have hl := hr.lt63
  have hn0 := Lib.hid (not32 s hs)
  go_enter Tryz.func74, Tryz.ntmps74
  go_wp2_with fail
  rw [hn0.out]
  go_loop [5, 6] (fun x i => ∃ k : Nat, i = .int .i64 k ∧ k ≤ l.length ∧ x = .int .u32 (crcF (4294967295 - s) (l.take k))) (fun _ i => (l.length - intOf i).toNat)
  case atStart => exact ⟨0, rfl, by omega, rfl⟩
  case round =>
    obtain ⟨k, rfl, hk, rfl⟩ := hrel
    have hF := crcF_lt (l.take k) (4294967295 - s) (by omega)
    by_cases hlt : k < l.length
    · obtain ⟨ad, rfl, hc⟩ := hr.at1 rfl hlt rfl
      have hn := l[k].toNat_lt
      have ht := Lib.hid (crcF_take (4294967295 - s) l k hlt)
      obtain ⟨x, hx⟩ : ∃ x, x = crcF (4294967295 - s) (l.take k) := ⟨_, rfl⟩
      rw [← hx] at hF ht ⊢
      have Hx := Lib.hid hx; clear hx
      have hj := xor8_lt x l[k].toNat hn
      have h8 := xor8 x l[k].toNat hn
      have h32 := Lib.hid (xor32 (crcN 8 (x % 256 ^^^ l[k].toNat)) x (crcN_lt _ _ (by omega)) hF)
      obtain ⟨j, hj2⟩ : ∃ j, j = x % 256 ^^^ l[k].toNat := ⟨_, rfl⟩
      rw [← hj2] at hj h8 h32 ht
      clear hj2
      go_wp2_with (go_at_call 116; go_loud (refine (ref02_Entry j hj _).mono ?_); rintro e w1 ⟨rfl, rfl⟩)
      go_round
      case rel => exact ⟨k + 1, rfl, hlt, vint (by rw [ht.out]; exact h32.out)⟩
      case measure => simp [intOf]; omega
    · have hf : Hid (more s l = 4294967295 - crcF (4294967295 - s) (l.take k)) := by rw [List.take_of_length_le (by omega)]; rfl
      have hn := Lib.hid (not32 _ hF)
      go_wp2_with fail
      go_ret
      exact ⟨rint (by rw [hf.out]; exact hn.out), rfl⟩
theorem ref02_Sum (A : Option Addr) (c : Nat) (l : List UInt8) (w : World) (hr : Rd eB w A c l) :
    Calls Tryz.prog 38 #[.slice A l.length c] w fun e w' => e = .returned (.int .u32 (sum l)) ∧ w = w' := by
  go_enter Tryz.func38, Tryz.ntmps38
  go_wp2_with (go_at_call 74; go_loud (refine (ref02_More 0 0 rfl (by decide) A c l _ hr).mono ?_); rintro e w1 ⟨rfl, rfl⟩)
  go_ret
  exact ⟨rfl, rfl⟩
end Go.Proofs.YtdghbnkegahdnaaGreat.B
