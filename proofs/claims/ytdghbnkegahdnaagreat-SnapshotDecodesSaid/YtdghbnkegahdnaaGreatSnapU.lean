/- The walks of package snapshot, second part: what reads bytes. -/
import Derived.Test.YtdghbnkegahdnaaGreatSnapW
import Derived.Test.YtdghbnkegahdnaaGreatCodecV
set_option linter.unusedVariables false
set_option linter.unusedSimpArgs false
set_option maxRecDepth 100000
set_option maxHeartbeats 1000000
namespace Go.Proofs.YtdghbnkegahdnaaGreat.B
open Go Go.RowKit Go.Proofs

theorem snap_cut (A : Option Addr) (c : Nat) (xss : List (List UInt8)) (w : World) (hr : RdS w A c xss) :
    Calls Tryz.prog 32 #[.slice A xss.length c] w fun e w' => e = .returned (.bool (cutN xss)) ∧ w = w' := by
  have hl63 := hr.len
  go_enter Tryz.func32, Tryz.ntmps32
  go_wp2_with fail
  go_loop [7] (fun i => ∃ k : Nat, i = .int .i64 k ∧ k ≤ xss.length ∧ Hid (cutN xss = cutN (xss.drop k))) (fun i => (xss.length - intOf i).toNat)
  case atStart => exact ⟨0, rfl, by omega, rfl⟩
  case round =>
    obtain ⟨k, rfl, hk, he⟩ := hrel
    by_cases hlt : k < xss.length
    · obtain ⟨ad, A', c', rfl, hc, hr'⟩ := hr.at_ hlt
      obtain ⟨x, hx⟩ : ∃ x, x = xss[k] := ⟨_, rfl⟩
      have hdn : xss.drop (k + 1) ≠ [] ↔ k + 1 < xss.length := by
        rw [Ne, List.drop_eq_nil_iff]; omega
      have hst : cutN xss = if x.length = 0 ∨ 64 < x.length ∨ (x.length < 64 ∧ k + 1 < xss.length) then false else cutN (xss.drop (k + 1)) := by
        have h := he.out
        rw [← List.getElem_cons_drop (h := hlt), cutN, ← hx] at h
        rw [h]
        exact ite_congr (by rw [hdn]) (fun _ => rfl) (fun _ => rfl)
      rw [← hx] at hc
      clear hx hdn he
      have gw : wrap64 ((xss.length : Int) - 1) = (xss.length : Int) - 1 := by unfold wrap64; omega
      rcases (by omega : x.length = 0 ∨ 64 < x.length ∨ (0 < x.length ∧ x.length < 64 ∧ k + 1 < xss.length) ∨ (0 < x.length ∧ x.length < 64 ∧ ¬ k + 1 < xss.length) ∨ x.length = 64) with h | h | ⟨h, h2, h3⟩ | ⟨h, h2, h3⟩ | h
      · have hs : Hid (cutN xss = false) := by rw [Hid, hst, if_pos (.inl h)]
        have h0 : ((x.length : Int) == 0) = true := by rw [beq_iff_eq]; omega
        clear hst
        go_wp2_with fail
        go_ret
        exact ⟨rbool hs.out.symm, rfl⟩
      · have hs : Hid (cutN xss = false) := by rw [Hid, hst, if_pos (.inr (.inl h))]
        have h0 : ((x.length : Int) == 0) = false := by rw [beq_eq_false_iff_ne]; omega
        clear hst
        go_wp2_with fail
        go_ret
        exact ⟨rbool hs.out.symm, rfl⟩
      · have hs : Hid (cutN xss = false) := by rw [Hid, hst, if_pos (.inr (.inr ⟨h2, h3⟩))]
        have h0 : ((x.length : Int) == 0) = false := by rw [beq_eq_false_iff_ne]; omega
        have h4 : ¬ 64 < x.length := by omega
        have h5 : (k : Int) < (xss.length : Int) - 1 := by omega
        clear hst
        go_wp2_with fail
        go_ret
        exact ⟨rbool hs.out.symm, rfl⟩
      · have hs : Hid (cutN xss = cutN (xss.drop (k + 1))) := by rw [Hid, hst, if_neg (by omega)]
        have h0 : ((x.length : Int) == 0) = false := by rw [beq_eq_false_iff_ne]; omega
        have h4 : ¬ 64 < x.length := by omega
        have h5 : ¬ (k : Int) < (xss.length : Int) - 1 := by omega
        clear hst
        go_wp2_with fail
        go_round
        case rel => exact ⟨k + 1, rfl, by omega, hs⟩
        case measure => simp [intOf]; omega
      · have hs : Hid (cutN xss = cutN (xss.drop (k + 1))) := by rw [Hid, hst, if_neg (by omega)]
        have h0 : ((x.length : Int) == 0) = false := by rw [beq_eq_false_iff_ne]; omega
        have h4 : ¬ 64 < x.length := by omega
        have h5 : ¬ x.length < 64 := by omega
        clear hst
        go_wp2_with fail
        go_round
        case rel => exact ⟨k + 1, rfl, by omega, hs⟩
        case measure => simp [intOf]; omega
    · have hs : Hid (cutN xss = true) := by
        have h := he.out
        rw [List.drop_eq_nil_of_le (by omega)] at h
        exact h
      clear he
      go_wp2_with fail
      go_ret
      exact ⟨rbool hs.out.symm, rfl⟩

theorem snap_entry (A : Option Addr) (c : Nat) (b : List UInt8) (w : World) (hr : Rd eB w A c b) (hl : b.length ≤ 70000000000000) :
    Calls Tryz.prog 69 #[.slice A b.length c] w fun e w' => ∃ x y z : Int, e = .returned (.tuple #[.agg #[.int .i64 x, .int .i64 y, .int .i64 z], .int .i64 (getE b).2]) ∧ Hid ((getE b).2 ≠ 0 → (getE b).1 = ⟨x, y, z⟩) ∧ Ex w w' := by
  obtain ⟨i, hi⟩ : ∃ i, i = (get b).2 := ⟨_, rfl⟩
  obtain ⟨x, hx⟩ : ∃ x, x = (get b).1 := ⟨_, rfl⟩
  have i1 := get_le b
  rw [← hi] at i1
  obtain ⟨A1, c1, b1, hb1, run1, r1, bl1⟩ := cut_fromB (P := Tryz.prog) w 22 5 Tryz.underlying22 sizeB hr (i : Int) (by omega) (by omega)
  have hb1 : b1 = b.drop i := by have h := hb1.out; rw [Int.toNat_natCast] at h; exact h
  obtain ⟨j, hj⟩ : ∃ j, j = (get b1).2 := ⟨_, rfl⟩
  obtain ⟨y, hy⟩ : ∃ y, y = (get b1).1 := ⟨_, rfl⟩
  have i2 := get_le b1
  rw [← hj] at i2
  obtain ⟨A2, c2, b2, hb2, run2, r2, bl2⟩ := cut_fromB (P := Tryz.prog) w 22 5 Tryz.underlying22 sizeB r1 (j : Int) (by omega) (by omega)
  have hb2 : b2 = b1.drop j := by have h := hb2.out; rw [Int.toNat_natCast] at h; exact h
  obtain ⟨k, hk⟩ : ∃ k, k = (getS b2).2 := ⟨_, rfl⟩
  obtain ⟨z, hz⟩ : ∃ z, z = (getS b2).1 := ⟨_, rfl⟩
  have i3 := getS_le b2
  rw [← hk] at i3
  have n1 : b1.length = b.length - i := by rw [hb1, List.length_drop]
  have n2 : b2.length = b1.length - j := by rw [hb2, List.length_drop]
  have hspec : getE b = if i = 0 ∨ j = 0 ∨ k = 0 then (⟨0, 0, 0⟩, 0) else (⟨x, y, z⟩, i + j + k) := by
    unfold getE
    simp only [← hi, ← hb1, ← hj, ← hb2, ← hk, ← hx, ← hy, ← hz]
  have hsum : i + j + k ≤ 70000000000000 := by omega
  have g0 := getE_le b
  have HI := Lib.hid hi; have HX := Lib.hid hx; have HJ := Lib.hid hj; have HY := Lib.hid hy; have HK := Lib.hid hk; have HZ := Lib.hid hz
  clear hi hx hj hy hk hz hb1 hb2 i1 i2 i3 n1 n2 bl1 bl2
  have hcase : (((i : Int) == 0) = true ∧ Hid ((getE b).2 = 0)) ∨ (((i : Int) == 0) = false ∧ ((j : Int) == 0) = true ∧ Hid ((getE b).2 = 0)) ∨ (((i : Int) == 0) = false ∧ ((j : Int) == 0) = false ∧ ((k : Int) == 0) = true ∧ Hid ((getE b).2 = 0)) ∨ (((i : Int) == 0) = false ∧ ((j : Int) == 0) = false ∧ ((k : Int) == 0) = false ∧ Hid (getE b = (⟨x, y, z⟩, i + j + k))) := by
    by_cases h1 : i = 0
    · exact .inl ⟨by rw [h1]; rfl, by rw [Hid, hspec, if_pos (.inl h1)]⟩
    · have e1 : ((i : Int) == 0) = false := by rw [beq_eq_false_iff_ne]; omega
      by_cases h2 : j = 0
      · exact .inr (.inl ⟨e1, by rw [h2]; rfl, by rw [Hid, hspec, if_pos (.inr (.inl h2))]⟩)
      · have e2 : ((j : Int) == 0) = false := by rw [beq_eq_false_iff_ne]; omega
        by_cases h3 : k = 0
        · exact .inr (.inr (.inl ⟨e1, e2, by rw [h3]; rfl, by rw [Hid, hspec, if_pos (.inr (.inr h3))]⟩))
        · have e3 : ((k : Int) == 0) = false := by rw [beq_eq_false_iff_ne]; omega
          exact .inr (.inr (.inr ⟨e1, e2, e3, by rw [Hid, hspec, if_neg (by omega)]⟩))
  clear hspec
  rcases hcase with ⟨h1, hs⟩ | ⟨h1, h2, hs⟩ | ⟨h1, h2, h3, hs⟩ | ⟨h1, h2, h3, hs⟩
  all_goals
    go_enter Tryz.func69, Tryz.ntmps69
    go_wp2_with (first
      | (go_at_call_of 64 A1; refine (num_Get A1 c1 b1 _ (r1.ex (by repeat' first | exact Ex.refl _ | refine Ex.alloc ?_ _ | refine Ex.set ?_ (Nat.le_refl _) _))).mono ?_; rintro e w1 ⟨rfl, rfl⟩; rw [← HY.out, ← HJ.out])
      | (go_at_call 64; refine (num_Get A c b _ (hr.ex (by repeat' first | exact Ex.refl _ | refine Ex.alloc ?_ _ | refine Ex.set ?_ (Nat.le_refl _) _))).mono ?_; rintro e w1 ⟨rfl, rfl⟩; rw [← HX.out, ← HI.out])
      | (go_at_call 109; refine (num_GetSigned A2 c2 b2 _ (r2.ex (by repeat' first | exact Ex.refl _ | refine Ex.alloc ?_ _ | refine Ex.set ?_ (Nat.le_refl _) _))).mono ?_; rintro e w1 ⟨rfl, rfl⟩; rw [← HZ.out, ← HK.out]))
    first
      | (refine bodyPost_ret (v := .tuple #[.agg #[.int .i64 x, .int .i64 y, .int .i64 z], .int .i64 0]) (by simp [results, Tryz.results69, go_sem]) rfl ⟨x, y, z, by rw [hs.out]; rfl, fun h => absurd hs.out h, (by repeat' first | exact Ex.refl _ | refine Ex.alloc ?_ _ | refine Ex.set ?_ (Nat.le_refl _) _)⟩)
      | (have gw : IntKind.i64.wrap (IntKind.i64.wrap ((i : Int) + (j : Int)) + (k : Int)) = (i : Int) + (j : Int) + (k : Int) := by rw [IntWalk.i64_in ((i : Int) + (j : Int)) (by omega), IntWalk.i64_in _ (by omega)]
         refine bodyPost_ret (v := .tuple #[.agg #[.int .i64 x, .int .i64 y, .int .i64 z], .int .i64 ((i : Int) + (j : Int) + (k : Int))]) (by simp [results, Tryz.results69, go_sem]) rfl ⟨x, y, z, by rw [hs.out]; exact ret2 rfl (vint (by push_cast; rfl)), fun _ => by rw [hs.out], (by repeat' first | exact Ex.refl _ | refine Ex.alloc ?_ _ | refine Ex.set ?_ (Nat.le_refl _) _)⟩)

theorem snap_readManifest (A : Option Addr) (c : Nat) (d : List UInt8) (w : World) (hr : Rd eB w A c d) :
    Calls Tryz.prog 30 #[.slice A d.length c] w fun e w' => ∃ x y z : Int, e = .returned (.tuple #[.agg #[.int .i64 x, .int .i64 y, .int .u64 z], .int .i64 (readM d).2.2.2]) ∧ Hid ((readM d).2.2.2 = 0 → x = (readM d).1 ∧ y = (readM d).2.1 ∧ z = (readM d).2.2.1) ∧ Ex w w' := by
  by_cases hd0 : d.length = 0
  · have hs : Hid ((readM d).2.2.2 = 3) := by unfold readM Hid; rw [if_pos (.inl hd0)]
    have h0 : ((d.length : Int) == 0) = true := by rw [beq_iff_eq]; omega
    clear hd0
    go_enter Tryz.func30, Tryz.ntmps30
    go_wp2_with fail
    refine bodyPost_ret (v := .tuple #[.agg #[.int .i64 0, .int .i64 0, .int .u64 0], .int .i64 3]) (by simp [results, Tryz.results30, go_sem]) rfl ⟨0, 0, 0, by rw [hs.out], (fun h => by rw [hs.out] at h; cases h), (by repeat' first | exact Ex.refl _ | refine Ex.alloc ?_ _ | refine Ex.set ?_ (Nat.le_refl _) _)⟩
  · have h0 : ((d.length : Int) == 0) = false := by rw [beq_eq_false_iff_ne]; omega
    obtain ⟨b0, hb0⟩ : ∃ b0, b0 = d[0]'(by omega) := ⟨_, rfl⟩
    obtain ⟨ad, hA, hc0⟩ := hr.at1 (u := .int .u8 b0.toNat) rfl (show 0 < d.length by omega) (by rw [← hb0]; rfl)
    have hhd : d.headD 0 = b0 := by
      cases d with
      | nil => exact absurd rfl hd0
      | cons a r => rw [hb0]; rfl
    have ha0 : ad.add 0 = ad := by unfold Addr.add; rw [if_pos rfl]
    rw [ha0] at hc0
    have hc1 := ((Ex.refl w).alloc (.cells #[.int .i64 0, .int .i64 0, .int .u64 0] 75)).cell hc0
    by_cases hne : b0 ≠ 115
    · have hs : Hid ((readM d).2.2.2 = 3) := by unfold readM Hid; rw [if_pos (.inr (by rw [hhd]; exact hne))]
      have h1 : ((b0.toNat : Int) != 115) = true := by
        rw [bne_iff_ne]; intro e; apply hne; apply UInt8.toNat_inj.1; have : b0.toNat = 115 := by omega
        rw [this]; rfl
      have hpos : 0 < d.length := by omega
      subst hA
      clear hne hhd hb0 hd0
      go_enter Tryz.func30, Tryz.ntmps30
      go_wp2_with fail
      refine bodyPost_ret (v := .tuple #[.agg #[.int .i64 0, .int .i64 0, .int .u64 0], .int .i64 3]) (by simp [results, Tryz.results30, go_sem]) rfl ⟨0, 0, 0, by rw [hs.out], (fun h => by rw [hs.out] at h; cases h), (by repeat' first | exact Ex.refl _ | refine Ex.alloc ?_ _ | refine Ex.set ?_ (Nat.le_refl _) _)⟩
    · have hb : b0 = 115 := Classical.byContradiction fun h => hne h
      have h1 : ((b0.toNat : Int) != 115) = false := by rw [hb]; rfl
      have hpos : 0 < d.length := by omega
      obtain ⟨A0, c0, d0, hd0', run0, r0⟩ := cut_from (P := Tryz.prog) w 22 5 Tryz.underlying22 sizeB hr 1 (by omega) (by omega)
      have e0 : d0 = d.drop 1 := hd0'.out
      obtain ⟨v, hv⟩ : ∃ v, v = (get d0).1 := ⟨_, rfl⟩
      obtain ⟨i, hi⟩ : ∃ i, i = (get d0).2 := ⟨_, rfl⟩
      have i1 := get_le d0
      rw [← hi] at i1
      obtain ⟨A1, c1, b1, hb1, run1, r1⟩ := cut_from (P := Tryz.prog) w 22 5 Tryz.underlying22 sizeB r0 (i : Int) (by omega) (by omega)
      have hb1 : b1 = d0.drop i := by have h := hb1.out; rw [Int.toNat_natCast] at h; exact h
      obtain ⟨x, hx⟩ : ∃ x, x = (get b1).1 := ⟨_, rfl⟩
      obtain ⟨j, hj⟩ : ∃ j, j = (get b1).2 := ⟨_, rfl⟩
      have i2 := get_le b1
      rw [← hj] at i2
      obtain ⟨A2, c2, b2, hb2, run2, r2⟩ := cut_from (P := Tryz.prog) w 22 5 Tryz.underlying22 sizeB r1 (j : Int) (by omega) (by omega)
      have hb2 : b2 = b1.drop j := by have h := hb2.out; rw [Int.toNat_natCast] at h; exact h
      obtain ⟨y, hy⟩ : ∃ y, y = (get b2).1 := ⟨_, rfl⟩
      obtain ⟨k, hk⟩ : ∃ k, k = (get b2).2 := ⟨_, rfl⟩
      have i3 := get_le b2
      rw [← hk] at i3
      obtain ⟨A3, c3, b3, hb3, run3, r3⟩ := cut_from (P := Tryz.prog) w 22 5 Tryz.underlying22 sizeB r2 (k : Int) (by omega) (by omega)
      have hb3 : b3 = b2.drop k := by have h := hb3.out; rw [Int.toNat_natCast] at h; exact h
      have hspec : readM d = if i = 0 ∨ j = 0 ∨ k = 0 then (0, 0, 0, 3) else if v ≠ 3 then (0, 0, 0, 6) else if b3.length ≠ 4 then (0, 0, 0, 3) else (x, y, fixed (b3.take 8), 0) := by
        unfold readM
        rw [if_neg (by rw [hhd, hb]; simp; exact fun e => hd0 (by rw [e]; rfl))]
        simp only [← e0, ← hi, ← hb1, ← hj, ← hb2, ← hk, ← hb3, ← hx, ← hy, ← hv]
      have HI := Lib.hid hi; have HX := Lib.hid hx; have HJ := Lib.hid hj; have HY := Lib.hid hy; have HK := Lib.hid hk; have HV := Lib.hid hv
      have hcase : (((i : Int) == 0) = true ∧ Hid ((readM d).2.2.2 = 3)) ∨ (((i : Int) == 0) = false ∧ ((j : Int) == 0) = true ∧ Hid ((readM d).2.2.2 = 3)) ∨ (((i : Int) == 0) = false ∧ ((j : Int) == 0) = false ∧ ((k : Int) == 0) = true ∧ Hid ((readM d).2.2.2 = 3)) ∨
          (((i : Int) == 0) = false ∧ ((j : Int) == 0) = false ∧ ((k : Int) == 0) = false ∧ ((v : Int) != 3) = true ∧ Hid ((readM d).2.2.2 = 6)) ∨ (((i : Int) == 0) = false ∧ ((j : Int) == 0) = false ∧ ((k : Int) == 0) = false ∧ ((v : Int) != 3) = false ∧ ((b3.length : Int) != 4) = true ∧ Hid ((readM d).2.2.2 = 3)) ∨
          (((i : Int) == 0) = false ∧ ((j : Int) == 0) = false ∧ ((k : Int) == 0) = false ∧ ((v : Int) != 3) = false ∧ ((b3.length : Int) != 4) = false ∧ Hid (readM d = (x, y, fixed (b3.take 8), 0))) := by
        by_cases h1 : i = 0
        · exact .inl ⟨by rw [h1]; rfl, by rw [Hid, hspec, if_pos (.inl h1)]⟩
        · have e1 : ((i : Int) == 0) = false := by rw [beq_eq_false_iff_ne]; omega
          by_cases h2 : j = 0
          · exact .inr (.inl ⟨e1, by rw [h2]; rfl, by rw [Hid, hspec, if_pos (.inr (.inl h2))]⟩)
          · have e2 : ((j : Int) == 0) = false := by rw [beq_eq_false_iff_ne]; omega
            by_cases h3 : k = 0
            · exact .inr (.inr (.inl ⟨e1, e2, by rw [h3]; rfl, by rw [Hid, hspec, if_pos (.inr (.inr h3))]⟩))
            · have e3 : ((k : Int) == 0) = false := by rw [beq_eq_false_iff_ne]; omega
              have h4 : ¬ (i = 0 ∨ j = 0 ∨ k = 0) := by omega
              by_cases h5 : v ≠ 3
              · exact .inr (.inr (.inr (.inl ⟨e1, e2, e3, by rw [bne_iff_ne]; omega, by rw [Hid, hspec, if_neg h4, if_pos h5]⟩)))
              · have e5 : ((v : Int) != 3) = false := by rw [bne_eq_false_iff_eq]; omega
                by_cases h6 : b3.length ≠ 4
                · exact .inr (.inr (.inr (.inr (.inl ⟨e1, e2, e3, e5, by rw [bne_iff_ne]; omega, by rw [Hid, hspec, if_neg h4, if_neg h5, if_pos h6]⟩))))
                · exact .inr (.inr (.inr (.inr (.inr ⟨e1, e2, e3, e5, by rw [bne_eq_false_iff_eq]; omega, by rw [Hid, hspec, if_neg h4, if_neg h5, if_neg h6]⟩))))
      subst hA
      clear hspec hi hx hj hy hk hv hb1 hb2 hb3 i1 i2 i3 hne hb hb0 hhd hd0 e0 hd0'
      rcases hcase with ⟨k1, hs⟩ | ⟨k1, k2, hs⟩ | ⟨k1, k2, k3, hs⟩ | ⟨k1, k2, k3, k4, hs⟩ | ⟨k1, k2, k3, k4, k5, hs⟩ | ⟨k1, k2, k3, k4, k5, hs⟩
      all_goals
        go_enter Tryz.func30, Tryz.ntmps30
        go_wp2_with (first
          | (go_at_call_of 64 A2; refine (num_Get A2 c2 b2 _ (r2.ex (by repeat' first | exact Ex.refl _ | refine Ex.alloc ?_ _ | refine Ex.set ?_ (Nat.le_refl _) _))).mono ?_; rintro e w1 ⟨rfl, rfl⟩; rw [← HY.out, ← HK.out])
          | (go_at_call_of 64 A1; refine (num_Get A1 c1 b1 _ (r1.ex (by repeat' first | exact Ex.refl _ | refine Ex.alloc ?_ _ | refine Ex.set ?_ (Nat.le_refl _) _))).mono ?_; rintro e w1 ⟨rfl, rfl⟩; rw [← HX.out, ← HJ.out])
          | (go_at_call 64; refine (num_Get A0 c0 d0 _ (r0.ex (by repeat' first | exact Ex.refl _ | refine Ex.alloc ?_ _ | refine Ex.set ?_ (Nat.le_refl _) _))).mono ?_; rintro e w1 ⟨rfl, rfl⟩; rw [← HV.out, ← HI.out])
          | (go_at_call 65; refine (num_Fixed A3 c3 b3 _ (r3.ex (by repeat' first | exact Ex.refl _ | refine Ex.alloc ?_ _ | refine Ex.set ?_ (Nat.le_refl _) _))).mono ?_; rintro e w1 ⟨rfl, rfl⟩))
      · refine bodyPost_ret (v := .tuple #[.agg #[.int .i64 x, .int .i64 y, .int .u64 0], .int .i64 3]) (by simp [results, Tryz.results30, go_sem]) rfl ⟨x, y, 0, by rw [hs.out], (fun h => by rw [hs.out] at h; cases h), (by repeat' first | exact Ex.refl _ | refine Ex.alloc ?_ _ | refine Ex.set ?_ (Nat.le_refl _) _)⟩
      · refine bodyPost_ret (v := .tuple #[.agg #[.int .i64 x, .int .i64 y, .int .u64 0], .int .i64 3]) (by simp [results, Tryz.results30, go_sem]) rfl ⟨x, y, 0, by rw [hs.out], (fun h => by rw [hs.out] at h; cases h), (by repeat' first | exact Ex.refl _ | refine Ex.alloc ?_ _ | refine Ex.set ?_ (Nat.le_refl _) _)⟩
      · refine bodyPost_ret (v := .tuple #[.agg #[.int .i64 x, .int .i64 y, .int .u64 0], .int .i64 3]) (by simp [results, Tryz.results30, go_sem]) rfl ⟨x, y, 0, by rw [hs.out], (fun h => by rw [hs.out] at h; cases h), (by repeat' first | exact Ex.refl _ | refine Ex.alloc ?_ _ | refine Ex.set ?_ (Nat.le_refl _) _)⟩
      · refine bodyPost_ret (v := .tuple #[.agg #[.int .i64 x, .int .i64 y, .int .u64 0], .int .i64 6]) (by simp [results, Tryz.results30, go_sem]) rfl ⟨x, y, 0, by rw [hs.out], (fun h => by rw [hs.out] at h; cases h), (by repeat' first | exact Ex.refl _ | refine Ex.alloc ?_ _ | refine Ex.set ?_ (Nat.le_refl _) _)⟩
      · refine bodyPost_ret (v := .tuple #[.agg #[.int .i64 x, .int .i64 y, .int .u64 0], .int .i64 3]) (by simp [results, Tryz.results30, go_sem]) rfl ⟨x, y, 0, by rw [hs.out], (fun h => by rw [hs.out] at h; cases h), (by repeat' first | exact Ex.refl _ | refine Ex.alloc ?_ _ | refine Ex.set ?_ (Nat.le_refl _) _)⟩
      · refine bodyPost_ret (v := .tuple #[.agg #[.int .i64 x, .int .i64 y, .int .u64 (fixed (b3.take 8))], .int .i64 0]) (by simp [results, Tryz.results30, go_sem]) rfl ⟨x, y, fixed (b3.take 8), by rw [hs.out], fun _ => by rw [hs.out]; exact ⟨rfl, rfl, rfl⟩, (by repeat' first | exact Ex.refl _ | refine Ex.alloc ?_ _ | refine Ex.set ?_ (Nat.le_refl _) _)⟩
end Go.Proofs.YtdghbnkegahdnaaGreat.B
