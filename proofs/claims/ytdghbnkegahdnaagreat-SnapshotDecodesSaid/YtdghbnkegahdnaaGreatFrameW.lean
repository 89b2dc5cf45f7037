/- The walks of package frame. -/
import Derived.Test.YtdghbnkegahdnaaGreatCrcW
import Derived.Test.YtdghbnkegahdnaaGreatSlB
import Derived.Test.YtdghbnkegahdnaaGreatFrame
import Derived.RegionCalls
import Derived.Deep.RegionWith
set_option linter.unusedVariables false
set_option linter.unusedSimpArgs false
set_option maxRecDepth 100000
set_option maxHeartbeats 1000000
namespace Go.Proofs.YtdghbnkegahdnaaGreat.B
open Go Go.RowKit Go.Proofs

theorem fv_open : Fv Tryz.prog 161 := ⟨_, Tryz.func161, by kernel_rfl, rfl⟩
theorem frame_open1 (b : UInt8) (w : World) : Calls Tryz.prog 161 #[.int .u8 (b.toNat : Int)] w fun e w' => e = .returned (.bool (small b)) ∧ w = w' := by
  have h : Hid (small b = decide ((b.toNat : Int) < 128)) := decide_eq_decide.2 (by omega)
  go_enter Tryz.func161, Tryz.ntmps161
  go_wp2_with fail
  go_ret
  exact ⟨rbool h.out.symm, rfl⟩
theorem frame_open (A : Option Addr) (c : Nat) (b : List UInt8) (w : World) (hr : Rd eB w A c b) :
    Calls Tryz.prog 127 #[.slice A b.length c] w fun e w' => e = .returned (.bool (openF b)) ∧ w = w' := by
  by_cases h : b.length < 10
  · have ho : Hid (openF b = !b.any small) := by unfold openF Hid; simp [h]
    have h1 : decide ((b.length : Int) < 10) = true := by simp; omega
    clear h
    go_enter Tryz.func127, Tryz.ntmps127
    go_wp2_with (go_at_call 160; (with_reducible refine (slices_ContainsFuncB small _ fv_open frame_open1 A c b _ hr).mono ?_); rintro e w1 ⟨rfl, rfl⟩)
    go_ret
    exact ⟨rbool ho.out.symm, rfl⟩
  · have ho : Hid (openF b = false) := by unfold openF Hid; simp [h]
    have h1 : decide ((b.length : Int) < 10) = false := by simp; omega
    clear h
    go_enter Tryz.func127, Tryz.ntmps127
    go_wp2_with fail
    go_ret
    exact ⟨rbool ho.out.symm, rfl⟩
theorem frame_sum (A : Option Addr) (c : Nat) (h : List UInt8) (A' : Option Addr) (c' : Nat) (d : List UInt8) (w : World) (hr : Rd eB w A c h) (hr' : Rd eB w A' c' d) :
    Calls Tryz.prog 122 #[.slice A h.length c, .slice A' d.length c'] w fun e w' => ∃ v, e = .returned v ∧ Own eB 5 w' w.heap.size v (fix (sum (h ++ d)) 4) ∧ Ex w w' := by
  have hs := more_lt 0 h
  have hm := more_lt (sum h) d
  have hh := Lib.hid (more_append h d)
  go_enter Tryz.func122, Tryz.ntmps122
  go_wp2_with (first | (go_at_call 33; (with_reducible refine (crc_Sum A c h _ hr).mono ?_); rintro e w1 ⟨rfl, hx1⟩) | (go_at_call 67; refine (crc_More (sum h) _ rfl hs A' c' d _ (hr'.ex hx1)).mono ?_; rintro e w2 ⟨rfl, hx2⟩) | (go_at_call 63; refine (num_Fixed32 _ hm _).mono ?_; rintro e w3 ⟨v3, rfl, ho3, hx3⟩))
  go_ret
  exact ⟨v3, rfl, by have e := hh.out; unfold sum at ho3 ⊢; rw [e] at ho3; exact ho3.lower (Nat.le_trans hx1.le hx2.le), hx1.trans (hx2.trans hx3)⟩
theorem frame_Size (n : Nat) (hn : n ≤ 9000000000000000000) (w : World) :
    Calls Tryz.prog 23 #[.int .i64 n] w fun e w' => e = .returned (.int .i64 (sizeF n)) ∧ Ex w w' := by
  have hp := put_len n
  by_cases h : 1048576 < n
  · have hs : Hid (sizeF n = 0) := if_pos h
    have h1 : decide ((1048576 : Int) < (n : Int)) = true := by simp; omega
    clear h
    go_enter Tryz.func23, Tryz.ntmps23
    go_wp2_with fail
    go_ret
    exact ⟨rint (by rw [hs.out]; rfl), Ex.refl _⟩
  · have hs : Hid (sizeF n = (put n).length + 4 + n) := if_neg h
    have h1 : decide ((1048576 : Int) < (n : Int)) = false := by simp; omega
    have ho0 := Own.nil eB 5 w w.heap.size
    have hn1 : n ≤ 1048576 := by omega
    clear h hn
    go_enter Tryz.func23, Tryz.ntmps23
    go_wp2_with (go_at_call 56; (with_reducible refine (num_Put w.heap.size _ [] n _ ho0 (Nat.le_refl _) (by simp)).mono ?_); rintro e w1 ⟨v1, rfl, ha⟩; (obtain ⟨A1, c1, hv1, hr1⟩ := ha.own.rd); rw [hv1, List.nil_append])
    go_ret
    exact ⟨rint (by rw [hs.out]; omega), ha.ex (Ex.refl _) (fun k hk => by cases hk)⟩
theorem frame_Encode (A : Option Addr) (c : Nat) (d : List UInt8) (w : World) (hr : Rd eB w A c d) :
    Calls Tryz.prog 81 #[.slice A d.length c] w fun e w' => ∃ v, e = .returned (.tuple #[v, .int .i64 (encE d)]) ∧ Own eB 5 w' w.heap.size v (encF d) ∧ Ex w w' := by
  have hlx := hr.lt63
  by_cases h : 1048576 < d.length
  · have hs : Hid (encF d = []) := if_pos h
    have hs2 : Hid (encE d = 5) := if_pos h
    have h1 : (1048576 : Int) < (d.length : Int) := by omega
    clear h
    go_enter Tryz.func81, Tryz.ntmps81
    go_wp2_with fail
    go_ret2
    exact ⟨_, ret2 rfl (vint hs2.out.symm), by rw [hs.out]; exact Own.nil _ _ _ _, Ex.refl _⟩
  · have hs : Hid (encF d = frameB d) := if_neg h
    have hs2 : Hid (encE d = 0) := if_neg h
    have h1 : ¬ (1048576 : Int) < (d.length : Int) := by omega
    have hd : d.length ≤ 1048576 := by omega
    have ho0 := Own.nil eB 5 w w.heap.size
    have hfl : [put d.length, d, fix (sum (put d.length ++ d)) 4].flatten.length ≤ 70000000000000 := by
      have := put_len (d.length : Int)
      simp [fix_len]; omega
    clear h hlx
    go_enter Tryz.func81, Tryz.ntmps81
    go_wp2_with (first | (go_at_call 56; (with_reducible refine (num_Put w.heap.size _ [] d.length _ ho0 (Nat.le_refl _) (by simp)).mono ?_); rintro e w1 ⟨v1, rfl, ha⟩; have hx1 : Ex w w1 := ha.ex (Ex.refl _) (fun k hk => by cases hk); (obtain ⟨A1, c1, hv1, hr1⟩ := ha.own.rd); rw [hv1]; rw [List.nil_append] at hr1 ⊢) | (go_at_call 122; go_loud (refine (frame_sum A1 c1 (put d.length) A c d _ hr1 (hr.ex hx1)).mono ?_); rintro e w2 ⟨v2, rfl, ho2, hx2⟩; (obtain ⟨A2, c2, hv2, hr2⟩ := ho2.rd); rw [hv2]) | (go_at_call 31; go_loud (refine (slices_ConcatB _ _ [put d.length, d, fix (sum (put d.length ++ d)) 4] _ (RdS.lit3 w2 22 (hr1.ex hx2) ((hr.ex hx1).ex hx2) hr2) hfl).mono ?_); rintro e w3 ⟨v3, rfl, ho3, hx3⟩))
    go_ret2
    refine ⟨v3, ret2 rfl (vint hs2.out.symm), ?_, ?_⟩
    · rw [hs.out]
      have e : frameB d = [put d.length, d, fix (sum (put d.length ++ d)) 4].flatten := by simp [frameB]
      rw [e]
      exact ho3.lower (Nat.le_trans hx1.le (Nat.le_trans hx2.le (by simp)))
    · exact hx1.trans (hx2.trans (((Ex.refl _).alloc _).trans hx3))

theorem frame_Decode (A : Option Addr) (c : Nat) (b : List UInt8) (w : World) (hr : Rd eB w A c b) (hl : b.length ≤ 70000000000000) :
    Calls Tryz.prog 87 #[.slice A b.length c] w fun e w' => ∃ v, e = .returned (.tuple #[v, .int .i64 (decF b).2.1, .int .i64 (decF b).2.2]) ∧ Own eB 5 w' w.heap.size v (decF b).1 ∧ Ex w w' := by
  cases hop : openF b with
  | true =>
    have hd : Hid (decF b = ([], 0, 2)) := by unfold decF; exact if_pos hop
    have Hop := Lib.hid hop; clear hop
    go_enter Tryz.func87, Tryz.ntmps87
    go_wp2_with (go_at_call 127; (with_reducible refine (frame_open A c b _ hr).mono ?_); rintro e w1 ⟨rfl, rfl⟩; rw [Hop.out])
    go_ret3
    exact ⟨_, by rw [hd.out]; rfl, by rw [hd.out]; exact Own.nil _ _ _ _, Ex.refl _⟩
  | false =>
    have hg10 := get_le10 b
    have hgl := get_le b
    obtain ⟨N, K, hg⟩ : ∃ N K, get b = (N, K) := ⟨_, _, rfl⟩
    have hNlt : N < 4611686018427387904 := by have := get_lt b; rw [hg] at this; exact this
    have hd0 : decF b = if K = 0 then ([], 0, 3) else if 1048576 < N then ([], 0, 5) else if b.length < K + 4 + N then ([], 0, 2)
      else if (b.drop (K + N)).take 4 = fix (sum (b.take (K + N))) 4 then ((b.take (K + N)).drop K, K + N + 4, 0) else ([], 0, 4) := by
      unfold decF; rw [if_neg (by rw [hop]; simp), hg]
    rw [hg] at hg10 hgl
    have Hop := Lib.hid hop; clear hop
    have Hg := Lib.hid hg; clear hg
    have hK10 : K ≤ 10 := hg10
    have hKl : K ≤ b.length := hgl
    clear hg10 hgl
    by_cases h0 : K = 0
    · have hd : Hid (decF b = ([], 0, 3)) := by rw [hd0]; exact if_pos h0
      clear hd0 hNlt
      have h0b : ((K : Int) == 0) = true := by rw [h0]; rfl
      clear h0
      go_enter Tryz.func87, Tryz.ntmps87
      go_wp2_with (first | (go_at_call 127; (with_reducible refine (frame_open A c b _ hr).mono ?_); rintro e w1 ⟨rfl, rfl⟩; rw [Hop.out]) | (go_at_call 64; (with_reducible refine (num_Get A c b _ hr).mono ?_); rintro e w1 ⟨rfl, rfl⟩; rw [Hg.out]))
      go_ret3
      exact ⟨_, by rw [hd.out]; rfl, by rw [hd.out]; exact Own.nil _ _ _ _, Ex.refl _⟩
    · rw [if_neg h0] at hd0
      have h0b : ((K : Int) == 0) = false := by rw [beq_eq_false_iff_ne]; omega
      clear h0
      by_cases h1 : 1048576 < N
      · have hd : Hid (decF b = ([], 0, 5)) := by rw [hd0]; exact if_pos h1
        have h1b : (1048576 : Int) < (N : Int) := by omega
        clear hd0 h1 hNlt
        go_enter Tryz.func87, Tryz.ntmps87
        go_wp2_with (first | (go_at_call 127; (with_reducible refine (frame_open A c b _ hr).mono ?_); rintro e w1 ⟨rfl, rfl⟩; rw [Hop.out]) | (go_at_call 64; (with_reducible refine (num_Get A c b _ hr).mono ?_); rintro e w1 ⟨rfl, rfl⟩; rw [Hg.out]))
        go_ret3
        exact ⟨_, by rw [hd.out]; rfl, by rw [hd.out]; exact Own.nil _ _ _ _, Ex.refl _⟩
      · rw [if_neg h1] at hd0
        have h1b : ¬ (1048576 : Int) < (N : Int) := by omega
        have hN : N ≤ 1048576 := by omega
        clear h1 hNlt
        by_cases h2 : b.length < K + 4 + N
        · have hd : Hid (decF b = ([], 0, 2)) := by rw [hd0]; exact if_pos h2
          have h2b : ((b.length : Int) < (K : Int) + 4 + (N : Int)) := by omega
          clear hd0 h2
          go_enter Tryz.func87, Tryz.ntmps87
          go_wp2_with (first | (go_at_call 127; (with_reducible refine (frame_open A c b _ hr).mono ?_); rintro e w1 ⟨rfl, rfl⟩; rw [Hop.out]) | (go_at_call 64; (with_reducible refine (num_Get A c b _ hr).mono ?_); rintro e w1 ⟨rfl, rfl⟩; rw [Hg.out]))
          go_ret3
          exact ⟨_, by rw [hd.out]; rfl, by rw [hd.out]; exact Own.nil _ _ _ _, Ex.refl _⟩
        · rw [if_neg h2] at hd0
          have h2b : ¬ ((b.length : Int) < (K : Int) + 4 + (N : Int)) := by omega
          have h2c : K + N + 4 ≤ b.length := by omega
          clear h2
          have hlc := hr.len
          obtain ⟨A1, c1, y1, hy1, run1, r1⟩ := cut_hm (P := Tryz.prog) w 22 5 Tryz.underlying22 sizeB hr (K : Int) (K : Int) (by omega) (by omega) (by omega) (by omega)
          obtain ⟨A2, c2, y2, hy2, run2, r2⟩ := cut_three (P := Tryz.prog) w 22 5 Tryz.underlying22 sizeB hr (K : Int) ((K : Int) + (N : Int)) ((K : Int) + (N : Int)) (by omega) (by omega) (by omega) (by omega) (by omega)
          obtain ⟨A3, c3, y3, hy3, run3, r3⟩ := cut_mid (P := Tryz.prog) w 22 5 Tryz.underlying22 sizeB hr ((K : Int) + (N : Int)) ((K : Int) + (N : Int) + 4) (by omega) (by omega) (by omega)
          have e1 : ((K : Int) + (N : Int)).toNat = K + N := by omega
          have e2 : ((K : Int) + (N : Int) + 4).toNat = K + N + 4 := by omega
          have H2 : Hid (y2 = (b.take (K + N)).drop K) := by have h := hy2.out; rw [e1, Int.toNat_natCast] at h; exact h
          have H1 : Hid (y1 ++ y2 = b.take (K + N)) := by
            have h := hy1.out
            rw [Int.toNat_natCast] at h
            have h2 : b.take K = (b.take (K + N)).take K := by rw [List.take_take, Nat.min_eq_left (by omega)]
            show y1 ++ y2 = _
            rw [h, H2.out, h2, List.take_append_drop]
          have H3 : Hid (y3 = (b.drop (K + N)).take 4) := by have h := hy3.out; rw [e1, e2, List.drop_take, show K + N + 4 - (K + N) = 4 from by omega] at h; exact h
          clear e1 e2 hy1 hy2 hy3
          have Hd0 := Lib.hid hd0; clear hd0
          have g1 : IntKind.i64.wrap ((K : Int) + (N : Int)) = (K : Int) + (N : Int) := IntWalk.i64_in _ (by omega)
          have g2 : IntKind.i64.wrap ((K : Int) + (N : Int) + 4) = (K : Int) + (N : Int) + 4 := IntWalk.i64_in _ (by omega)
          go_enter Tryz.func87, Tryz.ntmps87
          go_wp2_with (first | (go_at_call 127; (with_reducible refine (frame_open A c b _ hr).mono ?_); rintro e w1 ⟨rfl, rfl⟩; rw [Hop.out]) | (go_at_call 64; (with_reducible refine (num_Get A c b _ hr).mono ?_); rintro e w1 ⟨rfl, rfl⟩; rw [Hg.out]))
          go_quiet (fail)
          go_wp2
          generalize hW : w.drewN _ = W
          have hxW : Ex w W := by rw [← hW]; exact (Ex.refl w).drewN _
          clear hW
          go_region_with (first | (go_at_call 122; go_loud (refine (frame_sum A1 c1 y1 A2 c2 y2 _ (r1.ex hxW.drew) (r2.ex hxW.drew)).mono ?_); rintro e w2 ⟨v2, rfl, ho2, hx2⟩; (obtain ⟨A4, c4, hv2, hr2⟩ := ho2.rd); rw [hv2]) | (go_at_call 128; go_loud (refine (slices_EqualB A3 c3 y3 A4 c4 _ _ ((r3.ex hxW.drew).ex hx2) hr2).mono ?_); rintro e w3 ⟨rfl, hx3⟩))
          all_goals
            have hx5 : Ex w w3 := hxW.drew.trans (hx2.trans hx3)
            by_cases heq : y3 = fix (sum (y1 ++ y2)) 4
            · have hdq : decide (y3 = fix (sum (y1 ++ y2)) 4) = true := decide_eq_true heq
              have hd : Hid (decF b = (y2, K + N + 4, 0)) := by
                have h := Hd0.out
                rw [← H3.out, ← H1.out, if_pos heq, H1.out, ← H2.out] at h
                exact h
              clear heq
              have hlen2 := Lib.hid (show y2.length ≤ 70000000000000 by rw [H2.out, List.length_drop, List.length_take]; omega)
              rw [hdq]
              go_wp2_with (go_at_call 129; go_loud (refine (slices_CloneB A2 c2 y2 _ (r2.ex hx5) hlen2.out).mono ?_); rintro e w4 ⟨v4, rfl, ho4, hx4⟩)
              go_ret3
              exact ⟨v4, by rw [hd.out]; exact ret3 rfl (vint (by push_cast; rfl)) rfl, by rw [hd.out]; exact ho4.lower hx5.le, hx5.trans hx4⟩
            · have hdq : decide (y3 = fix (sum (y1 ++ y2)) 4) = false := decide_eq_false heq
              have hd : Hid (decF b = ([], 0, 4)) := by
                have h := Hd0.out
                rw [← H3.out, ← H1.out, if_neg heq] at h
                exact h
              clear heq
              rw [hdq]
              go_wp2
              go_ret3
              exact ⟨_, by rw [hd.out]; rfl, by rw [hd.out]; exact Own.nil _ _ _ _, hx5⟩

theorem infoS : (Tryz.prog.info? 22).map (fun i => (i.zero, i.size, i.bytes)) = some (some (.slice none 0 0), 1, 24) := by kernel_rfl
theorem frame_walk (A : Option Addr) (c : Nat) (b : List UInt8) (w : World) (hr : Rd eB w A c b) (hl : b.length ≤ 1000000000000) :
    Calls Tryz.prog 53 #[.slice A b.length c] w fun e w' => ∃ v, e = .returned (.tuple #[v, .int .i64 (walkF b).2.1, .int .i64 (walkF b).2.2]) ∧ OwnS 22 w' w.heap.size v (walkF b).1 ∧ Ex w w' := by
  go_enter Tryz.func53, Tryz.ntmps53
  go_wp2_with fail
  go_loopw [2, 3] (fun v i wr => ∃ (k : Nat) (xss : List (List UInt8)), i = .int .i64 k ∧ k ≤ b.length ∧ xss.length ≤ k ∧ Ex w wr ∧ OwnS 22 wr w.heap.size v xss ∧ Hid (walkF b = (xss ++ (walkF (b.drop k)).1, k + (walkF (b.drop k)).2.1, (walkF (b.drop k)).2.2))) (fun _ i _ => (b.length - intOf i).toNat)
  case atStart => exact ⟨0, [], rfl, by omega, by simp, Ex.refl _, OwnS.nil _ _ _, by simp [Hid]⟩
  case round =>
    obtain ⟨k, xss, rfl, hk, hxk, hx, ho, hw⟩ := hrel
    by_cases hlt : k < b.length
    · have hxw := hx.le
      obtain ⟨A1, c1, y, hy, run1, r1⟩ := cut_from (P := Tryz.prog) wr 22 5 Tryz.underlying22 sizeB (hr.ex hx) (k : Int) (by omega) (by omega)
      have hyl : y.length = b.length - k := by rw [hy.out, Int.toNat_natCast, List.length_drop]
      have hyle : y.length ≤ 70000000000000 := by omega
      have hyne : y ≠ [] := by intro h; rw [h] at hyl; simp at hyl; omega
      have Hyl := Lib.hid hyl; clear hyl
      have hwy : Hid (walkF b = (xss ++ (walkF y).1, k + (walkF y).2.1, (walkF y).2.2)) := by have h := hw.out; rw [hy.out, Int.toNat_natCast]; exact h
      have hdl := decF_le y
      obtain ⟨d, n, e, hde⟩ : ∃ d n e, decF y = (d, n, e) := ⟨_, _, _, rfl⟩
      rw [hde] at hdl
      by_cases he : e = 0
      · subst he
        have hpos := decF_pos hde
        have hwn := walkF_ok hyne (by rw [hde])
        rw [hde] at hwn
        have hwn2 : Hid (walkF b = ((xss ++ [d]) ++ (walkF (b.drop (k + n))).1, (k + n) + (walkF (b.drop (k + n))).2.1, (walkF (b.drop (k + n))).2.2)) := by
          have h := hwy.out
          have e2 : y.drop n = b.drop (k + n) := by rw [hy.out, Int.toNat_natCast, List.drop_drop]
          rw [hwn] at h
          simp only [e2] at h
          show _ = _
          rw [h, List.append_assoc, Nat.add_assoc]; rfl
        have hk2 : k + n ≤ b.length := by have := Hyl.out; omega
        have hn1 : 5 ≤ n := hpos.1
        clear hpos hwn
        have Hde := Lib.hid hde; clear hde
        clear hyne hwy hw
        go_wp2_with (first | (go_at_call 87; (refine (frame_Decode A1 c1 y _ r1 hyle).mono ?_); rintro e w2 ⟨v2, rfl, ho2, hx2⟩; rw [Hde.out] at ho2 ⊢; (obtain ⟨A2, c2, hv2, hr2⟩ := ho2.rd); have hne2 := later_ne ho2 hv2 (fun j hj => (ho.lt j hj).2); rw [hv2]) | ((with_reducible refine gate_bi (b := .append) (xs := #[.tmp 25, .tmp 27]) rfl ?_); at_builtin; go_loud (refine ownS_app1 w.heap.size rfl (.tmp 25) (.tmp 27) 45 22 rfl Tryz.underlying45 infoS _ xss A2 c2 d rfl rfl (ho.ex hx2) hr2 (fun _ => hne2) (Nat.le_trans hxw hx2.le) (by omega) ?_); intro v1 w1 ho1 hg1 ha1))
        go_roundw
        case rel => exact ⟨k + n, xss ++ [d], rfl, hk2, by simp; omega, (hx.trans hx2).grown hg1 (fun j hj => (ho.lt j hj).1), ho1, hwn2⟩
        case measure => simp [intOf]; omega
      · have hne : ((e : Int) != 0) = true := by rw [bne_iff_ne]; exact he
        have hwn := walkF_no hyne (by rw [hde]; exact he)
        rw [hde] at hwn
        have hwn2 : Hid (walkF b = (xss, k, e)) := by
          have h := hwy.out
          rw [hwn] at h
          show walkF b = _
          simpa using h
        have Hde := Lib.hid hde; clear hde
        clear hyne hwy hw hwn he
        go_wp2_with (go_at_call 87; (refine (frame_Decode A1 c1 y _ r1 hyle).mono ?_); rintro e w2 ⟨v2, rfl, ho2, hx2⟩; rw [Hde.out])
        go_ret3
        exact ⟨_, by rw [hwn2.out]; rfl, by rw [hwn2.out]; exact ho.ex hx2, hx.trans hx2⟩
    · have hwn : Hid (walkF b = (xss, k, 0)) := by
        have h := hw.out
        rw [List.drop_of_length_le (by omega), walkF_nil] at h
        show walkF b = _
        simpa using h
      go_wp2_with fail
      go_ret3
      exact ⟨_, by rw [hwn.out]; rfl, by rw [hwn.out]; exact ho, hx⟩
theorem frame_All (A : Option Addr) (c : Nat) (b : List UInt8) (w : World) (hr : Rd eB w A c b) (hl : b.length ≤ 1000000000000) :
    Calls Tryz.prog 29 #[.slice A b.length c] w fun e w' => ∃ v, e = .returned (.tuple #[v, .int .i64 (allF b).2]) ∧ OwnS 22 w' w.heap.size v (allF b).1 ∧ Ex w w' := by
  by_cases h : (walkF b).2.2 = 0
  · have ha : Hid (allF b = ((walkF b).1, 0)) := if_pos h
    have h1 : ((walkF b).2.2 != 0) = false := by rw [h]; rfl
    clear h
    go_enter Tryz.func29, Tryz.ntmps29
    go_wp2_with (go_at_call 53; (with_reducible refine (frame_walk A c b _ hr hl).mono ?_); rintro e w1 ⟨v1, rfl, ho1, hx1⟩)
    go_ret2
    exact ⟨v1, by rw [ha.out]; rfl, by rw [ha.out]; exact ho1, hx1⟩
  · have ha : Hid (allF b = ([], (walkF b).2.2)) := if_neg h
    have h1 : ((walkF b).2.2 != 0) = true := by rw [bne_iff_ne]; exact h
    clear h
    go_enter Tryz.func29, Tryz.ntmps29
    go_wp2_with (go_at_call 53; (with_reducible refine (frame_walk A c b _ hr hl).mono ?_); rintro e w1 ⟨v1, rfl, ho1, hx1⟩)
    go_ret2
    exact ⟨_, by rw [ha.out]; rfl, by rw [ha.out]; exact OwnS.nil _ _ _, hx1⟩
theorem frame_Whole (A : Option Addr) (c : Nat) (b : List UInt8) (w : World) (hr : Rd eB w A c b) (hl : b.length ≤ 1000000000000) :
    Calls Tryz.prog 21 #[.slice A b.length c] w fun e w' => ∃ v, e = .returned (.tuple #[v, .int .i64 (walkF b).2.1]) ∧ OwnS 22 w' w.heap.size v (walkF b).1 ∧ Ex w w' := by
  go_enter Tryz.func21, Tryz.ntmps21
  go_wp2_with (go_at_call 53; (with_reducible refine (frame_walk A c b _ hr hl).mono ?_); rintro e w1 ⟨v1, rfl, ho1, hx1⟩)
  go_ret2
  exact ⟨v1, rfl, ho1, hx1⟩
end Go.Proofs.YtdghbnkegahdnaaGreat.B
