/- The walks of the references of frames. -/
import Derived.Test.YtdghbnkegahdnaaGreatRef1W
import Derived.Test.YtdghbnkegahdnaaGreatFrameW
import Derived.Test.YtdghbnkegahdnaaGreatNumP
set_option linter.unusedVariables false
set_option linter.unusedSimpArgs false
set_option maxRecDepth 100000
set_option maxHeartbeats 2000000
namespace Go.Proofs.YtdghbnkegahdnaaGreat.B
open Go Go.RowKit Go.Proofs

theorem ref03_open (A : Option Addr) (c : Nat) (b : List UInt8) (w : World) (hr : Rd eB w A c b) :
    Calls Tryz.prog 91 #[.slice A b.length c] w fun e w' => e = .returned (.bool (openF b)) ∧ w = w' := by
  have hl := hr.lt63
  go_enter Tryz.func91, Tryz.ntmps91
  go_wp2
  go_loop [3] (fun i => ∃ k : Nat, i = .int .i64 k ∧ k ≤ b.length ∧ Hid ((b.take k).any small = false)) (fun i => (b.length - intOf i).toNat)
  case atStart => exact ⟨0, rfl, by omega, by simp [Hid]⟩
  case round =>
    obtain ⟨k, rfl, hk, ha⟩ := hrel
    by_cases hlt : k < b.length
    · obtain ⟨ad, rfl, hc⟩ := hr.at1 rfl hlt rfl
      by_cases hs : b[k].toNat < 128
      · have h1 : (b[k].toNat : Int) < 128 := by omega
        have ho : Hid (openF b = false) := by
          rw [Hid, openF]
          have : b.any small = true := List.any_eq_true.2 ⟨b[k], List.getElem_mem hlt, by unfold small; exact decide_eq_true hs⟩
          rw [this]; simp
        clear hs
        go_wp2_with fail
        go_ret
        exact ⟨rbool ho.out.symm, rfl⟩
      · have h1 : ¬ (b[k].toNat : Int) < 128 := by omega
        have ha2 : Hid ((b.take (k + 1)).any small = false) := any_take_succ ha.out hlt (by unfold small; exact decide_eq_false hs)
        clear hs
        go_wp2_with fail
        go_round
        case rel => exact ⟨k + 1, rfl, by omega, ha2⟩
        case measure => simp [intOf]; omega
    · have hb : b.any small = false := by
        have h := ha.out
        rwa [List.take_of_length_le (by omega)] at h
      have ho : Hid (openF b = decide (b.length < 10)) := by rw [Hid, openF, hb]; simp
      clear hb
      by_cases h10 : b.length < 10
      · have h1 : (b.length : Int) < 10 := by omega
        have ho2 : Hid (openF b = true) := by rw [Hid, ho.out]; exact decide_eq_true h10
        clear h10
        go_wp2_with fail
        go_ret
        exact ⟨rbool (by rw [ho2.out]), rfl⟩
      · have h1 : ¬ (b.length : Int) < 10 := by omega
        have ho2 : Hid (openF b = false) := by rw [Hid, ho.out]; exact decide_eq_false h10
        clear h10
        go_wp2_with fail
        go_ret
        exact ⟨rbool (by rw [ho2.out]), rfl⟩
theorem ref03_Decode (A : Option Addr) (c : Nat) (b : List UInt8) (w : World) (hr : Rd eB w A c b) (hl : b.length ≤ 70000000000000) :
    Calls Tryz.prog 57 #[.slice A b.length c] w fun e w' => ∃ v, e = .returned (.tuple #[v, .int .i64 (decF b).2.1, .int .i64 (decF b).2.2]) ∧ Own eB 5 w' w.heap.size v (decF b).1 ∧ Ex w w' := by
  cases hop : openF b with
  | true =>
    have hd : Hid (decF b = ([], 0, 2)) := by unfold decF; exact if_pos hop
    have Hop := Lib.hid hop; clear hop
    go_enter Tryz.func57, Tryz.ntmps57
    go_wp2_with (go_at_call 91; (with_reducible refine (ref03_open A c b _ hr).mono ?_); rintro e w1 ⟨rfl, rfl⟩; rw [Hop.out])
    go_ret3
    exact ⟨_, by rw [hd.out]; rfl, by rw [hd.out]; exact Own.nil _ _ _ _, Ex.refl _⟩
  | false =>
    have hg10 := get_le10 b
    have hgl := get_le b
    obtain ⟨N, K, hg⟩ : ∃ N K, get b = (N, K) := ⟨_, _, rfl⟩
    have hNlt : N < 4611686018427387904 := by have := get_lt b; rw [hg] at this; exact this
    have hd0 : decF b = if K = 0 then ([], 0, 3) else if 1048576 < N then ([], 0, 5) else if b.length < K + 4 + N then ([], 0, 2)
      else if (b.drop (K + N)).take 4 = fix (sum (b.take (K + N))) 4 then ((b.take (K + N)).drop K, K + N + 4, 0) else ([], 0, 4) := by
      unfold decF; rw [if_neg (by rw [hop]; simp), hg]
    rw [hg] at hg10 hgl
    have Hop := Lib.hid hop; clear hop
    have Hg := Lib.hid hg; clear hg
    have hK10 : K ≤ 10 := hg10
    have hKl : K ≤ b.length := hgl
    clear hg10 hgl
    by_cases h0 : K = 0
    · have hd : Hid (decF b = ([], 0, 3)) := by rw [hd0]; exact if_pos h0
      clear hd0 hNlt
      have h0b : ((K : Int) == 0) = true := by rw [h0]; rfl
      clear h0
      go_enter Tryz.func57, Tryz.ntmps57
      go_wp2_with (first | (go_at_call 91; (with_reducible refine (ref03_open A c b _ hr).mono ?_); rintro e w1 ⟨rfl, rfl⟩; rw [Hop.out]) | (go_at_call 72; (with_reducible refine (ref01_Get A c b _ hr).mono ?_); rintro e w1 ⟨rfl, rfl⟩; rw [Hg.out]))
      go_ret3
      exact ⟨_, by rw [hd.out]; rfl, by rw [hd.out]; exact Own.nil _ _ _ _, Ex.refl _⟩
    · rw [if_neg h0] at hd0
      have h0b : ((K : Int) == 0) = false := by rw [beq_eq_false_iff_ne]; omega
      clear h0
      by_cases h1 : 1048576 < N
      · have hd : Hid (decF b = ([], 0, 5)) := by rw [hd0]; exact if_pos h1
        have h1b : (1048576 : Int) < (N : Int) := by omega
        clear hd0 h1 hNlt
        go_enter Tryz.func57, Tryz.ntmps57
        go_wp2_with (first | (go_at_call 91; (with_reducible refine (ref03_open A c b _ hr).mono ?_); rintro e w1 ⟨rfl, rfl⟩; rw [Hop.out]) | (go_at_call 72; (with_reducible refine (ref01_Get A c b _ hr).mono ?_); rintro e w1 ⟨rfl, rfl⟩; rw [Hg.out]))
        go_ret3
        exact ⟨_, by rw [hd.out]; rfl, by rw [hd.out]; exact Own.nil _ _ _ _, Ex.refl _⟩
      · rw [if_neg h1] at hd0
        have h1b : ¬ (1048576 : Int) < (N : Int) := by omega
        have hN : N ≤ 1048576 := by omega
        clear h1 hNlt
        by_cases h2 : b.length < K + 4 + N
        · have hd : Hid (decF b = ([], 0, 2)) := by rw [hd0]; exact if_pos h2
          have h2b : ((b.length : Int) < (K : Int) + 4 + (N : Int)) := by omega
          clear hd0 h2
          go_enter Tryz.func57, Tryz.ntmps57
          go_wp2_with (first | (go_at_call 91; (with_reducible refine (ref03_open A c b _ hr).mono ?_); rintro e w1 ⟨rfl, rfl⟩; rw [Hop.out]) | (go_at_call 72; (with_reducible refine (ref01_Get A c b _ hr).mono ?_); rintro e w1 ⟨rfl, rfl⟩; rw [Hg.out]))
          go_ret3
          exact ⟨_, by rw [hd.out]; rfl, by rw [hd.out]; exact Own.nil _ _ _ _, Ex.refl _⟩
        · rw [if_neg h2] at hd0
          have h2b : ¬ ((b.length : Int) < (K : Int) + 4 + (N : Int)) := by omega
          have h2c : K + N + 4 ≤ b.length := by omega
          clear h2
          obtain ⟨A1, c1, y1, hy1, run1, r1⟩ := cut_mid (P := Tryz.prog) w 22 5 Tryz.underlying22 sizeB hr (K : Int) ((K : Int) + (N : Int)) (by omega) (by omega) (by omega)
          obtain ⟨A2, c2, y2, hy2, run2, r2⟩ := cut_to (P := Tryz.prog) w 22 5 Tryz.underlying22 sizeB hr ((K : Int) + (N : Int)) (by omega) (by omega)
          obtain ⟨A3, c3, y3, hy3, run3, r3⟩ := cut_mid (P := Tryz.prog) w 22 5 Tryz.underlying22 sizeB hr ((K : Int) + (N : Int)) ((K : Int) + (N : Int) + 4) (by omega) (by omega) (by omega)
          have e1 : ((K : Int) + (N : Int)).toNat = K + N := by omega
          have e2 : ((K : Int) + (N : Int) + 4).toNat = K + N + 4 := by omega
          have H1 : Hid (y1 = (b.take (K + N)).drop K) := by have h := hy1.out; rw [e1, Int.toNat_natCast] at h; exact h
          have H2 : Hid (y2 = b.take (K + N)) := by have h := hy2.out; rw [e1] at h; exact h
          have H3 : Hid (y3 = (b.drop (K + N)).take 4) := by have h := hy3.out; rw [e1, e2, List.drop_take, show K + N + 4 - (K + N) = 4 from by omega] at h; exact h
          have hl3 : y3.length = 4 := by have h := H3.out; rw [h, List.length_take, List.length_drop]; omega
          have hf3 : Hid (fixed (y3.take 8) = fixed y3) := by rw [Hid, List.take_of_length_le (by omega)]
          have hsm := more_lt 0 y2
          have hiff : (y3 = fix (sum y2) 4) ↔ fixed y3 = sum y2 := by
            constructor
            · intro h; rw [h, fixed_fix, Nat.mod_eq_of_lt (by unfold sum; omega)]
            · intro h; have h7 := fix_fixed y3; rw [hl3, h] at h7; exact h7.symm
          clear e1 e2 hy1 hy2 hy3 hl3
          obtain ⟨fx, hfx⟩ : ∃ fx, fx = fixed y3 := ⟨_, rfl⟩
          obtain ⟨sm, hs⟩ : ∃ sm, sm = sum y2 := ⟨_, rfl⟩
          rw [← hfx, ← hs] at hiff
          rw [← H1.out, ← H3.out, ← H2.out, ← hs] at hd0
          rw [show more 0 y2 = sum y2 from rfl, ← hs] at hsm
          have Hfx := Lib.hid hfx; have Hs := Lib.hid hs
          clear hfx hs
          have hlen2 := Lib.hid (show ([] : List UInt8).length * 1 + y1.length * 1 ≤ 140737488355328 by have h := H1.out; rw [h, List.length_drop, List.length_take]; simp only [List.length_nil]; omega)
          by_cases heq : fx = sm
          · have hd : Hid (decF b = (y1, K + N + 4, 0)) := by rw [Hid, hd0, if_pos (hiff.2 heq)]
            have hb : ((fx : Int) != (sm : Int)) = false := by rw [heq]; simp
            clear hd0 heq hiff
            go_enter Tryz.func57, Tryz.ntmps57
            go_wp2_with (first
              | (go_at_call 91; (with_reducible refine (ref03_open A c b _ hr).mono ?_); rintro e w1 ⟨rfl, rfl⟩; rw [Hop.out])
              | (go_at_call 72; (with_reducible refine (ref01_Get A c b _ hr).mono ?_); rintro e w1 ⟨rfl, rfl⟩; rw [Hg.out])
              | (go_at_call 38; go_loud (refine (ref02_Sum A2 c2 y2 _ r2).mono ?_); rintro e w1 ⟨rfl, rfl⟩; rw [← Hs.out])
              | (go_at_call 73; go_loud (refine (ref01_Fixed A3 c3 y3 _ r3).mono ?_); rintro e w1 ⟨rfl, rfl⟩; rw [hf3.out, ← Hfx.out])
              | ((with_reducible refine gate_bi (b := .append) (xs := #[.const (.slice none 0 0), .tmp 54]) rfl ?_); at_builtin; go_loud (refine own_appR eB w.heap.size rfl (.const (.slice none 0 0)) (.tmp 54) 22 5 (.int .u8 0) 1 rfl Tryz.underlying22 infoB rfl (by decide) _ [] y1 A1 c1 rfl rfl (Own.nil _ _ _ _) r1 (Nat.le_refl _) (by have := hlen2.out; omega) ?_); intro v5 w5 ho5 hg5 ha5; have hx5 : Ex w w5 := (Ex.refl w).grown hg5 (fun k hk => by cases hk); rw [List.nil_append] at ho5))
            go_ret3
            exact ⟨v5, by rw [hd.out]; exact ret3 rfl (vint (by push_cast; omega)) rfl, by rw [hd.out]; exact ho5, hx5⟩
          · have hd : Hid (decF b = ([], 0, 4)) := by rw [Hid, hd0, if_neg (fun h => heq (hiff.1 h))]
            have hb : ((fx : Int) != (sm : Int)) = true := by rw [bne_iff_ne]; omega
            clear hd0 heq hiff
            go_enter Tryz.func57, Tryz.ntmps57
            go_wp2_with (first
              | (go_at_call 91; (with_reducible refine (ref03_open A c b _ hr).mono ?_); rintro e w1 ⟨rfl, rfl⟩; rw [Hop.out])
              | (go_at_call 72; (with_reducible refine (ref01_Get A c b _ hr).mono ?_); rintro e w1 ⟨rfl, rfl⟩; rw [Hg.out])
              | (go_at_call 38; go_loud (refine (ref02_Sum A2 c2 y2 _ r2).mono ?_); rintro e w1 ⟨rfl, rfl⟩; rw [← Hs.out])
              | (go_at_call 73; go_loud (refine (ref01_Fixed A3 c3 y3 _ r3).mono ?_); rintro e w1 ⟨rfl, rfl⟩; rw [hf3.out, ← Hfx.out]))
            go_ret3
            exact ⟨_, by rw [hd.out]; rfl, by rw [hd.out]; exact Own.nil _ _ _ _, Ex.refl _⟩
theorem ref03_Whole (A : Option Addr) (c : Nat) (b : List UInt8) (w : World) (hr : Rd eB w A c b) (hl : b.length ≤ 1000000000000) :
    Calls Tryz.prog 24 #[.slice A b.length c] w fun e w' => ∃ v, e = .returned (.tuple #[v, .int .i64 (walkF b).2.1, .int .i64 (walkF b).2.2]) ∧ OwnS 22 w' w.heap.size v (walkF b).1 ∧ Ex w w' := by
  go_enter Tryz.func24, Tryz.ntmps24
  go_wp2_with fail
  go_loopw [5, 6] (fun v i wr => ∃ (k : Nat) (xss : List (List UInt8)), i = .int .i64 k ∧ k ≤ b.length ∧ xss.length ≤ k ∧ Ex w wr ∧ OwnS 22 wr w.heap.size v xss ∧ Hid (walkF b = (xss ++ (walkF (b.drop k)).1, k + (walkF (b.drop k)).2.1, (walkF (b.drop k)).2.2))) (fun _ i _ => (b.length - intOf i).toNat)
  case atStart => exact ⟨0, [], rfl, by omega, by simp, Ex.refl _, OwnS.nil _ _ _, by simp [Hid]⟩
  case round =>
    obtain ⟨k, xss, rfl, hk, hxk, hx, ho, hw⟩ := hrel
    by_cases hlt : k < b.length
    · have hxw := hx.le
      obtain ⟨A1, c1, y, hy, run1, r1⟩ := cut_from (P := Tryz.prog) wr 22 5 Tryz.underlying22 sizeB (hr.ex hx) (k : Int) (by omega) (by omega)
      have hyl : y.length = b.length - k := by rw [hy.out, Int.toNat_natCast, List.length_drop]
      have hyle : y.length ≤ 70000000000000 := by omega
      have hyne : y ≠ [] := by intro h; rw [h] at hyl; simp at hyl; omega
      have Hyl := Lib.hid hyl; clear hyl
      have hwy : Hid (walkF b = (xss ++ (walkF y).1, k + (walkF y).2.1, (walkF y).2.2)) := by have h := hw.out; rw [hy.out, Int.toNat_natCast]; exact h
      have hdl := decF_le y
      obtain ⟨d, n, e, hde⟩ : ∃ d n e, decF y = (d, n, e) := ⟨_, _, _, rfl⟩
      rw [hde] at hdl
      by_cases he : e = 0
      · subst he
        have hpos := decF_pos hde
        have hwn := walkF_ok hyne (by rw [hde])
        rw [hde] at hwn
        have hwn2 : Hid (walkF b = ((xss ++ [d]) ++ (walkF (b.drop (k + n))).1, (k + n) + (walkF (b.drop (k + n))).2.1, (walkF (b.drop (k + n))).2.2)) := by
          have h := hwy.out
          have e2 : y.drop n = b.drop (k + n) := by rw [hy.out, Int.toNat_natCast, List.drop_drop]
          rw [hwn] at h
          simp only [e2] at h
          show _ = _
          rw [h, List.append_assoc, Nat.add_assoc]; rfl
        have hk2 : k + n ≤ b.length := by have := Hyl.out; omega
        have hn1 : 5 ≤ n := hpos.1
        clear hpos hwn
        have Hde := Lib.hid hde; clear hde
        clear hyne hwy hw
        go_wp2_with (first | (go_at_call 57; (refine (ref03_Decode A1 c1 y _ r1 hyle).mono ?_); rintro e w2 ⟨v2, rfl, ho2, hx2⟩; rw [Hde.out] at ho2 ⊢; (obtain ⟨A2, c2, hv2, hr2⟩ := ho2.rd); have hne2 := later_ne ho2 hv2 (fun j hj => (ho.lt j hj).2); rw [hv2]) | ((with_reducible refine gate_bi (b := .append) (xs := #[.tmp 27, .tmp 29]) rfl ?_); at_builtin; go_loud (refine ownS_app1 w.heap.size rfl (.tmp 27) (.tmp 29) 45 22 rfl Tryz.underlying45 infoS _ xss A2 c2 d rfl rfl (ho.ex hx2) hr2 (fun _ => hne2) (Nat.le_trans hxw hx2.le) (by omega) ?_); intro v1 w1 ho1 hg1 ha1))
        go_roundw
        case rel => exact ⟨k + n, xss ++ [d], rfl, hk2, by simp; omega, (hx.trans hx2).grown hg1 (fun j hj => (ho.lt j hj).1), ho1, hwn2⟩
        case measure => simp [intOf]; omega
      · have hne : ((e : Int) != 0) = true := by rw [bne_iff_ne]; exact he
        have hwn := walkF_no hyne (by rw [hde]; exact he)
        rw [hde] at hwn
        have hwn2 : Hid (walkF b = (xss, k, e)) := by
          have h := hwy.out
          rw [hwn] at h
          show walkF b = _
          simpa using h
        have Hde := Lib.hid hde; clear hde
        clear hyne hwy hw hwn he
        go_wp2_with (go_at_call 57; (refine (ref03_Decode A1 c1 y _ r1 hyle).mono ?_); rintro e w2 ⟨v2, rfl, ho2, hx2⟩; rw [Hde.out])
        go_ret3
        exact ⟨_, by rw [hwn2.out]; rfl, by rw [hwn2.out]; exact ho.ex hx2, hx.trans hx2⟩
    · have hwn : Hid (walkF b = (xss, k, 0)) := by
        have h := hw.out
        rw [List.drop_of_length_le (by omega), walkF_nil] at h
        show walkF b = _
        simpa using h
      go_wp2_with fail
      go_ret3
      exact ⟨_, by rw [hwn.out]; rfl, by rw [hwn.out]; exact ho, hx⟩
theorem ref03_All (A : Option Addr) (c : Nat) (b : List UInt8) (w : World) (hr : Rd eB w A c b) (hl : b.length ≤ 1000000000000) :
    Calls Tryz.prog 17 #[.slice A b.length c] w fun e w' => ∃ v, e = .returned (.tuple #[v, .int .i64 (allF b).2]) ∧ OwnS 22 w' w.heap.size v (allF b).1 ∧ Ex w w' := by
  by_cases h : (walkF b).2.2 = 0
  · have ha : Hid (allF b = ((walkF b).1, 0)) := if_pos h
    have h1 : ((walkF b).2.2 != 0) = false := by rw [h]; rfl
    clear h
    go_enter Tryz.func17, Tryz.ntmps17
    go_wp2_with (go_at_call 24; (with_reducible refine (ref03_Whole A c b _ hr hl).mono ?_); rintro e w1 ⟨v1, rfl, ho1, hx1⟩)
    go_ret2
    exact ⟨v1, by rw [ha.out]; rfl, by rw [ha.out]; exact ho1, hx1⟩
  · have ha : Hid (allF b = ([], (walkF b).2.2)) := if_neg h
    have h1 : ((walkF b).2.2 != 0) = true := by rw [bne_iff_ne]; exact h
    clear h
    go_enter Tryz.func17, Tryz.ntmps17
    go_wp2_with (go_at_call 24; (with_reducible refine (ref03_Whole A c b _ hr hl).mono ?_); rintro e w1 ⟨v1, rfl, ho1, hx1⟩)
    go_ret2
    exact ⟨_, by rw [ha.out]; rfl, by rw [ha.out]; exact OwnS.nil _ _ _, hx1⟩
end Go.Proofs.YtdghbnkegahdnaaGreat.B
