/- The walks of package num: each function comes to its plain function. -/
import Derived.Test.YtdghbnkegahdnaaGreatProg
import Derived.Test.YtdghbnkegahdnaaGreatBase
import Derived.Test.YtdghbnkegahdnaaGreatNum
set_option linter.unusedVariables false
set_option linter.unusedSimpArgs false
set_option maxRecDepth 100000
set_option maxHeartbeats 1000000
namespace Go.Proofs.YtdghbnkegahdnaaGreat.B
open Go Go.RowKit Go.Proofs

theorem infoB : (Tryz.prog.info? 5).map (fun i => (i.zero, i.size, i.bytes)) = some (some (.int .u8 0), 1, 1) := by kernel_rfl
theorem sizeB : (Tryz.prog.info? 5).map (·.size) = some eB.sz := by kernel_rfl

theorem eB_all1 (b : UInt8) : (eB.cs b).toArray = #[.int .u8 (b.toNat : Int)] := rfl

theorem num_read (A : Option Addr) (c : Nat) (l : List UInt8) (w : World) (hr : Rd eB w A c l) :
    Calls Tryz.prog 106 #[.slice A l.length c] w fun e w' => e = .returned (.tuple #[.int .u64 (dec l).1, .int .i64 (dec l).2]) ∧ w = w' := by
  have hl := hr.lt63
  obtain ⟨m, hm⟩ : ∃ m : Int, (if 10 < (l.length : Int) then 10 else (l.length : Int)) = m := ⟨_, rfl⟩
  go_enter Tryz.func106, Tryz.ntmps106
  go_wp2
  have Hm := Lib.hid hm; clear hm
  have hm1 : m ≤ 10 ∧ m ≤ l.length ∧ 0 ≤ m ∧ (m < 10 → m = l.length) := by have := Hm.out; omega
  go_loop [4, 10] (fun u i => ∃ (k v : Nat), (k : Int) ≤ m ∧ Hid (v < 128 ^ k) ∧ i = .int .i64 k ∧ u = .int .u64 v ∧ Hid (dec l = decA k v (l.drop k))) (fun _ i => (10 - intOf i).toNat)
  case atStart => exact ⟨0, 0, by omega, by simp [Hid], rfl, rfl, by simp [Hid, dec]⟩
  case round =>
    obtain ⟨k, v, hk, hv, rfl, rfl, hd⟩ := hrel
    by_cases hlt : (k : Int) < m
    · have hkl : k < l.length := by omega
      obtain ⟨ad, rfl, hc⟩ := hr.at1 rfl hkl rfl
      have hn := l[k].toNat_lt
      have hd2 : Hid (dec l = decA k v (l[k] :: l.drop (k + 1))) := by rw [List.getElem_cons_drop]; exact hd
      clear hd
      obtain ⟨b, hb⟩ : ∃ b, b = l[k] := ⟨_, rfl⟩
      rw [← hb] at hc hn hd2
      have Hb := Lib.hid hb; clear hb
      obtain ⟨n, hnn⟩ : ∃ n, n = b.toNat := ⟨_, rfl⟩
      rw [← hnn] at hc hn
      have Hn := Lib.hid hnn; clear hnn
      have hdec : Hid (dec l = if (k = 9 ∧ 1 < n) ∨ (n = 0 ∧ 0 < k) then (0, 0) else if n < 128 then (v + n % 128 * 128 ^ k, k + 1) else decA (k + 1) (v + n % 128 * 128 ^ k) (l.drop (k + 1))) := by
        have h := hd2.out; rw [decA, if_neg (by omega), ← Hn.out] at h; exact h
      clear hd2
      have hor : Hid ((k = 9 → n ≤ 1) → bits .or .u64 (v : Int) (IntKind.u64.wrap (IntKind.u64.wrap (bits .and .u8 (n : Int) 127) * 2 ^ (7 * k))) = ((v + n % 128 * 128 ^ k : Nat) : Int)) := fun h9 => or_step v k n hv.out (by omega) (by omega) h9
      go_wp2
      case roundEnd =>
        have h1 : ¬ (k : Int) = 9 := by assumption
        have h2 : ¬ n = 0 := by assumption
        have h3 : 128 ≤ (n : Int) := by assumption
        rw [hor.out (fun h => by omega)]
        refine ⟨⟨k + 1, v + n % 128 * 128 ^ k, by omega, ?_, rfl, rfl, ?_⟩, by simp [intOf]; omega⟩
        · have hv' := hv.out
          show _ < 128 ^ (k + 1)
          have : n % 128 * 128 ^ k ≤ 127 * 128 ^ k := Nat.mul_le_mul_right _ (by omega)
          rw [Nat.pow_succ]; omega
        · have h := hdec.out
          rw [if_neg (by omega), if_neg (by omega)] at h
          exact h
      all_goals
        go_ret2
        have h := hdec.out
        refine ⟨?_, rfl⟩
        by_cases h0 : (k = 9 ∧ 1 < n) ∨ (n = 0 ∧ 0 < k)
        · rw [if_pos h0] at h
          first
            | exact absurd h0 (by omega)
            | (rw [h]; rfl)
        · rw [if_neg h0, if_pos (by omega)] at h
          rw [h]
          first
            | exact ret2 (vint (hor.out (by omega))) (vint (by first | rfl | omega))
            | (obtain rfl : n = 0 := by omega
               exact ret2 (vint (hor.out (by omega))) (vint (by first | rfl | omega)))
            | exact absurd h0 (by omega)
    · have hd2 : dec l = (0, 0) := by
        rw [hd.out]
        rcases Nat.lt_or_ge k 10 with h | h
        · rw [List.drop_of_length_le (by omega)]; rfl
        · exact decA_ten _ _ _ h
      have HD := Lib.hid hd2; clear hd2
      go_wp2
      go_ret2
      exact ⟨by rw [HD.out]; rfl, rfl⟩

theorem cB (n : Int) (m : Nat) (h : n = m) (hm : m < 256) : (#[Value.int .u8 n] : Array Value) = (eB.cs (b8 m)).toArray := by
  simp only [eB, b8_toNat m hm, h]
theorem or128' (u : Nat) : (#[Value.int .u8 (bits .or .u8 ((u : Int) % 256) 128)] : Array Value) = (eB.cs (b8 (u % 128 + 128))).toArray := cB _ _ (or128 u) (by omega)

theorem num_groups (base : Nat) (v : Value) (l : List UInt8) (u : Nat) (hu : u < 18446744073709551616) (w : World) (ho : Own eB 5 w base v l) (hb : base ≤ w.heap.size) (hl : l.length ≤ 70000000000000) :
    Calls Tryz.prog 90 #[v, .int .u64 u] w fun e w' => ∃ v1, e = .returned v1 ∧ App eB 5 base w v w' v1 (l ++ grp u) := by
  have hlen := grp_len10 u hu
  go_enter Tryz.func90, Tryz.ntmps90
  go_wp2
  go_loopw [0, 1] (fun v0 u0 wr => ∃ (xs : List UInt8) (n : Nat), u0 = .int .u64 n ∧ Hid (xs ++ grp n = l ++ grp u) ∧ App eB 5 base w v wr v0 xs) (fun _ u0 _ => (intOf u0).toNat)
  case atStart => exact ⟨l, u, rfl, rfl, App.refl ho⟩
  case round =>
    obtain ⟨xs, n, rfl, he, ha⟩ := hrel
    have hxl : xs.length ≤ 70000000000010 := by have h := congrArg List.length he.out; simp only [List.length_append] at h; omega
    have hbw : base ≤ wr.heap.size := Nat.le_trans hb ha.gb.size
    by_cases hn : n < 128
    · have hg := Lib.hid (grp_lt n hn)
      go_wp2_with ((with_reducible refine gate_bi (b := .append) (xs := #[.tmp 15, .tmp 18]) rfl ?_); at_builtin; refine own_app1 eB base rfl (.tmp 15) (.tmp 18) 22 5 (.int .u8 0) 1 rfl Tryz.underlying22 infoB rfl (by decide) _ xs (b8 n) _ rfl rfl (cB _ _ rfl (by omega)) ha.own hbw (by omega) ?_; intro v1 w1 ho1 hg1 ha1)
      go_ret
      refine ⟨_, rfl, ?_⟩
      have : l ++ grp u = xs ++ [b8 n] := by rw [← he.out, hg.out]
      rw [this]
      exact ha.trans ⟨ho1, hg1, ha1⟩
    · have hg := Lib.hid (grp_ge n hn)
      go_wp2_with ((with_reducible refine gate_bi (b := .append) (xs := #[.tmp 7, .tmp 11]) rfl ?_); at_builtin; refine own_app1 eB base rfl (.tmp 7) (.tmp 11) 22 5 (.int .u8 0) 1 rfl Tryz.underlying22 infoB rfl (by decide) _ xs (b8 (n % 128 + 128)) _ rfl rfl (or128' n) ha.own hbw (by omega) ?_; intro v1 w1 ho1 hg1 ha1)
      go_roundw
      case rel => exact ⟨xs ++ [b8 (n % 128 + 128)], n / 128, by simp, by have := he.out; rw [hg.out] at this; simpa [Hid] using this, ha.trans ⟨ho1, hg1, ha1⟩⟩
      case measure => simp [intOf]; omega

theorem num_Zig (n : Int) (w : World) (h0 : -9223372036854775808 ≤ n) (h1 : n ≤ 9223372036854775807) :
    Calls Tryz.prog 141 #[.int .i64 n] w fun e w' => e = .returned (.int .u64 (zig n)) ∧ w = w' := by
  have hz := Lib.hid (zig_eq n h0 h1)
  go_enter Tryz.func141, Tryz.ntmps141
  go_wp2
  go_ret
  exact ⟨rint hz.out, rfl⟩
theorem num_Zag (u : Nat) (w : World) (h : u < 18446744073709551616) :
    Calls Tryz.prog 145 #[.int .u64 u] w fun e w' => e = .returned (.int .i64 (zag u)) ∧ w = w' := by
  have h1 := and1_u64 u h
  have hz := Lib.hid (zag_eq u h)
  have hu : u / 2 < 9223372036854775808 := by omega
  have hu2 : u % 2 < 2 := by omega
  go_enter Tryz.func145, Tryz.ntmps145
  go_wp2
  go_ret
  refine ⟨rint ?_, rfl⟩
  rw [← hz.out]
  first
    | rfl
    | (congr 1 <;> first | rfl | omega)
theorem num_Put (base : Nat) (v : Value) (l : List UInt8) (n : Int) (w : World) (ho : Own eB 5 w base v l) (hb : base ≤ w.heap.size) (hl : l.length ≤ 70000000000000) :
    Calls Tryz.prog 56 #[v, .int .i64 n] w fun e w' => ∃ v1, e = .returned v1 ∧ App eB 5 base w v w' v1 (l ++ put n) := by
  by_cases h0 : n < 0 ∨ 4611686018427387904 ≤ n
  · have hp : Hid (put n = []) := by unfold put; exact if_pos h0
    have key : ∃ v1, Ending.returned v = Ending.returned v1 ∧ App eB 5 base w v w v1 (l ++ put n) := ⟨v, rfl, by rw [hp.out, List.append_nil]; exact App.refl ho⟩
    rcases h0 with h0 | h0
    · go_enter Tryz.func56, Tryz.ntmps56
      go_wp2
      go_ret
      exact key
    · have h1 : ¬ n < 0 := by omega
      go_enter Tryz.func56, Tryz.ntmps56
      go_wp2
      go_ret
      exact key
  · have hp : Hid (put n = grp n.toNat) := by unfold put; exact if_neg h0
    obtain ⟨m, rfl⟩ := Int.eq_ofNat_of_zero_le (show 0 ≤ n by omega)
    have h1 : ¬ 4611686018427387904 ≤ (m : Int) := by omega
    clear h0
    go_enter Tryz.func56, Tryz.ntmps56
    go_wp2_with (go_at_call 90; (with_reducible refine (num_groups base v l m (by omega) _ ho hb hl).mono ?_); rintro e w1 ⟨v1, rfl, ha⟩)
    go_ret
    exact ⟨v1, rfl, by rw [hp.out]; exact ha⟩
theorem num_PutSigned (base : Nat) (v : Value) (l : List UInt8) (n : Int) (w : World) (h0 : -9223372036854775808 ≤ n) (h1 : n ≤ 9223372036854775807) (ho : Own eB 5 w base v l) (hb : base ≤ w.heap.size) (hl : l.length ≤ 70000000000000) :
    Calls Tryz.prog 104 #[v, .int .i64 n] w fun e w' => ∃ v1, e = .returned v1 ∧ App eB 5 base w v w' v1 (l ++ putS n) := by
  have hz := zig_lt n h0 h1
  go_enter Tryz.func104, Tryz.ntmps104
  go_wp2_with (first | (go_at_call 141; (with_reducible refine (num_Zig n _ h0 h1).mono ?_); rintro e w1 ⟨rfl, rfl⟩) | (go_at_call 90; (with_reducible refine (num_groups base v l (zig n) hz _ ho hb hl).mono ?_); rintro e w1 ⟨v1, rfl, ha⟩))
  go_ret
  exact ⟨v1, rfl, ha⟩
theorem num_Get (A : Option Addr) (c : Nat) (l : List UInt8) (w : World) (hr : Rd eB w A c l) :
    Calls Tryz.prog 64 #[.slice A l.length c] w fun e w' => e = .returned (.tuple #[.int .i64 (get l).1, .int .i64 (get l).2]) ∧ w = w' := by
  have hlt := dec_lt l
  by_cases h : 4611686018427387904 ≤ (dec l).1
  · have hg : Hid (get l = (0, 0)) := by unfold get; exact if_pos h
    have h' : decide ((4611686018427387904 : Int) ≤ ((dec l).1 : Int)) = true := by rw [decide_eq_true_iff]; omega
    clear h hlt
    go_enter Tryz.func64, Tryz.ntmps64
    go_wp2_with (go_at_call 106; (with_reducible refine (num_read A c l _ hr).mono ?_); rintro e w1 ⟨rfl, rfl⟩)
    go_ret2
    exact ⟨by rw [hg.out]; rfl, rfl⟩
  · have hg : Hid (get l = dec l) := by unfold get; exact if_neg h
    have h' : decide ((4611686018427387904 : Int) ≤ ((dec l).1 : Int)) = false := by rw [decide_eq_false_iff_not]; omega
    have h2 : ((dec l).1 : Int) ≤ 4611686018427387903 := by omega
    clear h hlt
    go_enter Tryz.func64, Tryz.ntmps64
    go_wp2_with (go_at_call 106; (with_reducible refine (num_read A c l _ hr).mono ?_); rintro e w1 ⟨rfl, rfl⟩)
    go_ret2
    exact ⟨by rw [hg.out]; rfl, rfl⟩
theorem num_GetSigned (A : Option Addr) (c : Nat) (l : List UInt8) (w : World) (hr : Rd eB w A c l) :
    Calls Tryz.prog 109 #[.slice A l.length c] w fun e w' => e = .returned (.tuple #[.int .i64 (getS l).1, .int .i64 (getS l).2]) ∧ w = w' := by
  have hlt := dec_lt l
  by_cases h : (dec l).2 = 0
  · have hg : Hid (getS l = (0, 0)) := by unfold getS; exact if_pos h
    have h' : (((dec l).2 : Int) == 0) = true := by rw [h]; rfl
    clear h
    go_enter Tryz.func109, Tryz.ntmps109
    go_wp2_with (go_at_call 106; (with_reducible refine (num_read A c l _ hr).mono ?_); rintro e w1 ⟨rfl, rfl⟩)
    go_ret2
    exact ⟨by rw [hg.out]; rfl, rfl⟩
  · have hg : Hid (getS l = (zag (dec l).1, (dec l).2)) := by unfold getS; exact if_neg h
    have h' : (((dec l).2 : Int) == 0) = false := by rw [beq_eq_false_iff_ne]; omega
    clear h
    go_enter Tryz.func109, Tryz.ntmps109
    go_wp2_with (first | (go_at_call 106; (with_reducible refine (num_read A c l _ hr).mono ?_); rintro e w1 ⟨rfl, rfl⟩) | (go_at_call 145; (with_reducible refine (num_Zag _ _ hlt).mono ?_); rintro e w1 ⟨rfl, rfl⟩))
    go_ret2
    exact ⟨by rw [hg.out]; rfl, rfl⟩

theorem shr_eq (u k : Nat) : (u : Int) / 2 ^ (8 * k) % 256 = ((u / 256 ^ k % 256 : Nat) : Int) := by
  have : (256 : Nat) ^ k = 2 ^ (8 * k) := by rw [Nat.pow_mul]
  rw [this]; push_cast; rfl
theorem num_fixed (u : Nat) (s : Nat) (z : Int) (hz : z = s) (hs : s ≤ 8) (w : World) :
    Calls Tryz.prog 105 #[.int .u64 u, .int .i64 z] w fun e w' => ∃ v1, e = .returned v1 ∧ Own eB 5 w' w.heap.size v1 (fix u s) ∧ Ex w w' := by
  subst hz
  go_enter Tryz.func105, Tryz.ntmps105
  go_wp2
  go_loopw [5, 8] (fun v0 i wr => ∃ (xs : List UInt8) (k : Nat), i = .int .i64 k ∧ k ≤ s ∧ xs.length = k ∧ Hid (fix u s = xs ++ fix (u / 256 ^ k) (s - k)) ∧ App eB 5 w.heap.size w (.slice none 0 0) wr v0 xs) (fun _ i _ => (s - intOf i).toNat)
  case atStart => exact ⟨[], 0, rfl, Nat.zero_le _, rfl, by simp [Hid], App.refl (Own.nil _ _ _ _)⟩
  case round =>
    obtain ⟨xs, k, rfl, hk, hxk, he, ha⟩ := hrel
    have Hx := Lib.hid hxk; clear hxk
    have hbw : w.heap.size ≤ wr.heap.size := ha.gb.size
    by_cases hlt : k < s
    · have hf : Hid (fix u s = (xs ++ [b8 (u / 256 ^ k % 256)]) ++ fix (u / 256 ^ (k + 1)) (s - (k + 1))) := by
        have h := he.out
        rw [show s - k = (s - (k + 1)) + 1 from by omega, fix, Nat.div_div_eq_div_mul, ← Nat.pow_succ] at h
        simpa [Hid] using h
      go_wp2_with ((with_reducible refine gate_bi (b := .append) (xs := #[.tmp 11, .tmp 17]) rfl ?_); at_builtin; refine own_app1 eB w.heap.size rfl (.tmp 11) (.tmp 17) 22 5 (.int .u8 0) 1 rfl Tryz.underlying22 infoB rfl (by decide) _ xs (b8 (u / 256 ^ k % 256)) _ rfl rfl (cB _ _ (shr_eq u k) (by omega)) ha.own hbw (by have := Hx.out; omega) ?_; intro v1 w1 ho1 hg1 ha1)
      go_roundw
      case rel => exact ⟨_, k + 1, rfl, hlt, by have := Hx.out; simp; omega, hf, ha.trans ⟨ho1, hg1, ha1⟩⟩
      case measure => simp [intOf]; omega
    · have hf : Hid (fix u s = xs) := by
        have h := he.out
        rw [show s - k = 0 from by omega, fix, List.append_nil] at h
        exact h
      go_wp2
      go_ret
      exact ⟨_, rfl, by rw [hf.out]; exact ha.own, ha.ex (Ex.refl _) (fun k hk => by simp [Value.ownBlock] at hk)⟩
theorem num_Fixed32 (u : Nat) (hu : u < 4294967296) (w : World) :
    Calls Tryz.prog 63 #[.int .u32 u] w fun e w' => ∃ v1, e = .returned v1 ∧ Own eB 5 w' w.heap.size v1 (fix u 4) ∧ Ex w w' := by
  go_enter Tryz.func63, Tryz.ntmps63
  go_wp2_with (go_at_call 105; (with_reducible refine (num_fixed u 4 4 rfl (by decide) _).mono ?_); rintro e w1 ⟨v1, rfl, ha⟩)
  go_ret
  exact ⟨v1, rfl, ha⟩
theorem num_Fixed (A : Option Addr) (c : Nat) (l : List UInt8) (w : World) (hr : Rd eB w A c l) :
    Calls Tryz.prog 65 #[.slice A l.length c] w fun e w' => e = .returned (.int .u64 (fixed (l.take 8))) ∧ w = w' := by
  obtain ⟨m, hm⟩ : ∃ m : Int, (if 8 < (l.length : Int) then 8 else (l.length : Int)) = m := ⟨_, rfl⟩
  go_enter Tryz.func65, Tryz.ntmps65
  go_wp2
  have Hm := Lib.hid hm; clear hm
  have hm1 : m ≤ 8 ∧ m ≤ l.length ∧ 0 ≤ m ∧ (m < 8 → m = l.length) := by have := Hm.out; omega
  go_loop [3, 8] (fun u i => ∃ (k : Nat), (k : Int) ≤ m ∧ i = .int .i64 k ∧ u = .int .u64 (fixed (l.take k))) (fun _ i => (8 - intOf i).toNat)
  case atStart => exact ⟨0, by omega, rfl, rfl⟩
  case round =>
    obtain ⟨k, hk, rfl, rfl⟩ := hrel
    by_cases hlt : (k : Int) < m
    · have hkl : k < l.length := by omega
      obtain ⟨ad, rfl, hc⟩ := hr.at1 rfl hkl rfl
      have hn := l[k].toNat_lt
      have hst := Lib.hid (fixed_step l k hkl (by omega))
      go_wp2
      go_round
      case rel => exact ⟨k + 1, by omega, rfl, vint hst.out⟩
      case measure => simp [intOf]; omega
    · have hf : Hid (l.take k = l.take 8) := by
        rcases Nat.lt_or_ge k 8 with h | h
        · show _ = _
          rw [List.take_of_length_le (by omega), List.take_of_length_le (by omega)]
        · show _ = _
          rw [show k = 8 from by omega]
      go_wp2
      go_ret
      exact ⟨by rw [hf.out]; rfl, rfl⟩
end Go.Proofs.YtdghbnkegahdnaaGreat.B
