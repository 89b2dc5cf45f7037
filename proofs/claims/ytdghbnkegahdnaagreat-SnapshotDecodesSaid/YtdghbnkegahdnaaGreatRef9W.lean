/- The walks of the references of snapshots: manifest. -/
import Derived.Test.YtdghbnkegahdnaaGreatRef9S
import Derived.Test.YtdghbnkegahdnaaGreatRef3W
set_option linter.unusedVariables false
set_option linter.unusedSimpArgs false
set_option maxRecDepth 100000
set_option maxHeartbeats 2000000
namespace Go.Proofs.YtdghbnkegahdnaaGreat.B
open Go Go.RowKit Go.Proofs

theorem wrap64_in (n : Int) (h0 : -9000000000000000000 ≤ n) (h1 : n ≤ 9000000000000000000) : wrap64 n = n := by unfold wrap64; omega
theorem gw_of (n m : Nat) (h : n ≤ m) (hm : m ≤ 70000000000000) : wrap64 (n : Int) = n := wrap64_in _ (by omega) (by omega)
theorem results_four {fn : Func} {t u v x : Tmp} (h : fn.results = #[.tmp t, .tmp u, .tmp v, .tmp x]) (tmps : Array Value) (P : Program) (w : World) :
    (results fn tmps).run P w = .ok (.tuple #[tmps.getD t undef, tmps.getD u undef, tmps.getD v undef, tmps.getD x undef]) w := by
  simp [results, h]
theorem ret4 {a b c d a' b' c' d' : Value} (h1 : a = a') (h2 : b = b') (h3 : c = c') (h4 : d = d') : Ending.returned (.tuple #[a, b, c, d]) = Ending.returned (.tuple #[a', b', c', d']) := by rw [h1, h2, h3, h4]
theorem ref09_manifest (A : Option Addr) (c : Nat) (d : List UInt8) (w : World) (hr : Rd eB w A c d) (hl : d.length ≤ 70000000000000) :
    Calls Tryz.prog 36 #[.slice A d.length c] w fun e w' => e = .returned (.tuple #[.int .i64 (readM d).1, .int .i64 (readM d).2.1, .int .u64 (readM d).2.2.1, .int .i64 (readM d).2.2.2]) ∧ w = w' := by
  by_cases hd0 : d.length < 1
  · have hs : Hid (readM d = (0, 0, 0, 3)) := by unfold readM Hid; rw [if_pos (.inl (by omega))]
    have h0 : (d.length : Int) < 1 := by omega
    clear hd0
    go_enter Tryz.func36, Tryz.ntmps36
    go_wp2_with fail
    (try simp only [Exit.inBlock, Exit.then])
    refine bodyPost_ret (results_four rfl _ _ _) rfl ?_
    exact ⟨by rw [hs.out]; rfl, rfl⟩
  · have h0 : ¬ (d.length : Int) < 1 := by omega
    obtain ⟨b0, hb0⟩ : ∃ b0, b0 = d[0]'(by omega) := ⟨_, rfl⟩
    obtain ⟨ad, hA, hc0⟩ := hr.at1 (u := .int .u8 b0.toNat) rfl (show 0 < d.length by omega) (by rw [← hb0]; rfl)
    have hhd : d.headD 0 = b0 := by
      cases d with
      | nil => exact absurd (show ([] : List UInt8).length < 1 by decide) hd0
      | cons a r => rw [hb0]; rfl
    have ha0 : ad.add 0 = ad := by unfold Addr.add; rw [if_pos rfl]
    rw [ha0] at hc0
    have hpos : 0 < d.length := by omega
    by_cases hne : b0 ≠ 115
    · have hs : Hid (readM d = (0, 0, 0, 3)) := by unfold readM Hid; rw [if_pos (.inr (by rw [hhd]; exact hne))]
      have h1 : ((b0.toNat : Int) != 115) = true := by
        rw [bne_iff_ne]; intro e; apply hne; apply UInt8.toNat_inj.1; have : b0.toNat = 115 := by omega
        rw [this]; rfl
      subst hA
      clear hne hhd hb0 hd0
      go_enter Tryz.func36, Tryz.ntmps36
      go_wp2_with fail
      (try simp only [Exit.inBlock, Exit.then])
      refine bodyPost_ret (results_four rfl _ _ _) rfl ?_
      exact ⟨by rw [hs.out]; rfl, rfl⟩
    · have hb : b0 = 115 := Classical.byContradiction fun h => hne h
      have h1 : ((b0.toNat : Int) != 115) = false := by rw [hb]; rfl
      obtain ⟨A0, c0, d0, hd0', run0, r0⟩ := cut_from (P := Tryz.prog) w 22 5 Tryz.underlying22 sizeB hr 1 (by omega) (by omega)
      have e0 : d0 = d.drop 1 := hd0'.out
      obtain ⟨v, hv⟩ : ∃ v, v = (get d0).1 := ⟨_, rfl⟩
      obtain ⟨i, hi⟩ : ∃ i, i = (get d0).2 := ⟨_, rfl⟩
      have i1 := get_le d0
      rw [← hi] at i1
      have l0 : d0.length + 1 = d.length := by rw [e0, List.length_drop]; omega
      obtain ⟨A1, c1, b1, hb1, run1, r1⟩ := cut_from (P := Tryz.prog) w 22 5 Tryz.underlying22 sizeB hr (1 + (i : Int)) (by omega) (by omega)
      have hb1 : b1 = d0.drop i := by have h := hb1.out; rw [show (1 + (i : Int)).toNat = 1 + i by omega] at h; rw [h, e0, List.drop_drop]
      obtain ⟨x, hx⟩ : ∃ x, x = (get b1).1 := ⟨_, rfl⟩
      obtain ⟨j, hj⟩ : ∃ j, j = (get b1).2 := ⟨_, rfl⟩
      have i2 := get_le b1
      rw [← hj] at i2
      have l1 : b1.length + i = d0.length := by rw [hb1, List.length_drop]; omega
      obtain ⟨A2, c2, b2, hb2, run2, r2⟩ := cut_from (P := Tryz.prog) w 22 5 Tryz.underlying22 sizeB hr (1 + (i : Int) + (j : Int)) (by omega) (by omega)
      have hb2 : b2 = b1.drop j := by have h := hb2.out; rw [show (1 + (i : Int) + (j : Int)).toNat = 1 + i + j by omega] at h; rw [h, hb1, e0, List.drop_drop, List.drop_drop]; congr 1; omega
      obtain ⟨y, hy⟩ : ∃ y, y = (get b2).1 := ⟨_, rfl⟩
      obtain ⟨k, hk⟩ : ∃ k, k = (get b2).2 := ⟨_, rfl⟩
      have i3 := get_le b2
      rw [← hk] at i3
      have l2 : b2.length + j = b1.length := by rw [hb2, List.length_drop]; omega
      obtain ⟨A3, c3, b3, hb3, run3, r3⟩ := cut_from (P := Tryz.prog) w 22 5 Tryz.underlying22 sizeB hr (1 + (i : Int) + (j : Int) + (k : Int)) (by omega) (by omega)
      have hb3 : b3 = b2.drop k := by have h := hb3.out; rw [show (1 + (i : Int) + (j : Int) + (k : Int)).toNat = 1 + i + j + k by omega] at h; rw [h, hb2, hb1, e0, List.drop_drop, List.drop_drop, List.drop_drop]; congr 1; omega
      have hspec : readM d = if i = 0 ∨ j = 0 ∨ k = 0 then (0, 0, 0, 3) else if v ≠ 3 then (0, 0, 0, 6) else if b3.length ≠ 4 then (0, 0, 0, 3) else (x, y, fixed (b3.take 8), 0) := by
        unfold readM
        rw [if_neg (by rw [hhd, hb]; simp; exact fun e => by rw [e] at hpos; simp at hpos)]
        simp only [← e0, ← hi, ← hb1, ← hj, ← hb2, ← hk, ← hb3, ← hx, ← hy, ← hv]
      have hs1 : 1 + i ≤ d.length := by clear hspec; omega
      have hs2 : 1 + i + j ≤ d.length := by clear hspec; omega
      have hs3 : 1 + i + j + k ≤ d.length := by clear hspec; omega
      clear l0 l1 l2 i1 i2 i3
      have HI := Lib.hid hi; have HX := Lib.hid hx; have HJ := Lib.hid hj; have HY := Lib.hid hy; have HK := Lib.hid hk; have HV := Lib.hid hv
      have HSpec := Lib.hid hspec
      clear hspec
      have hcase : (((i : Int) == 0) = true ∧ Hid (readM d = (0, 0, 0, 3))) ∨ (((i : Int) == 0) = false ∧ ((j : Int) == 0) = true ∧ Hid (readM d = (0, 0, 0, 3))) ∨ (((i : Int) == 0) = false ∧ ((j : Int) == 0) = false ∧ ((k : Int) == 0) = true ∧ Hid (readM d = (0, 0, 0, 3))) ∨
          (((i : Int) == 0) = false ∧ ((j : Int) == 0) = false ∧ ((k : Int) == 0) = false ∧ ((v : Int) != 3) = true ∧ Hid (readM d = (0, 0, 0, 6))) ∨ (((i : Int) == 0) = false ∧ ((j : Int) == 0) = false ∧ ((k : Int) == 0) = false ∧ ((v : Int) != 3) = false ∧ ((b3.length : Int) != 4) = true ∧ Hid (readM d = (0, 0, 0, 3))) ∨
          (((i : Int) == 0) = false ∧ ((j : Int) == 0) = false ∧ ((k : Int) == 0) = false ∧ ((v : Int) != 3) = false ∧ ((b3.length : Int) != 4) = false ∧ Hid (readM d = (x, y, fixed (b3.take 8), 0))) := by
        by_cases h1 : i = 0
        · exact .inl ⟨by rw [h1]; rfl, by rw [Hid, HSpec.out, if_pos (.inl h1)]⟩
        · have e1 : ((i : Int) == 0) = false := by rw [beq_eq_false_iff_ne]; omega
          by_cases h2 : j = 0
          · exact .inr (.inl ⟨e1, by rw [h2]; rfl, by rw [Hid, HSpec.out, if_pos (.inr (.inl h2))]⟩)
          · have e2 : ((j : Int) == 0) = false := by rw [beq_eq_false_iff_ne]; omega
            by_cases h3 : k = 0
            · exact .inr (.inr (.inl ⟨e1, e2, by rw [h3]; rfl, by rw [Hid, HSpec.out, if_pos (.inr (.inr h3))]⟩))
            · have e3 : ((k : Int) == 0) = false := by rw [beq_eq_false_iff_ne]; omega
              have h4 : ¬ (i = 0 ∨ j = 0 ∨ k = 0) := by omega
              by_cases h5 : v ≠ 3
              · exact .inr (.inr (.inr (.inl ⟨e1, e2, e3, by rw [bne_iff_ne]; omega, by rw [Hid, HSpec.out, if_neg h4, if_pos h5]⟩)))
              · have e5 : ((v : Int) != 3) = false := by rw [bne_eq_false_iff_eq]; omega
                by_cases h6 : b3.length ≠ 4
                · exact .inr (.inr (.inr (.inr (.inl ⟨e1, e2, e3, e5, by rw [bne_iff_ne]; omega, by rw [Hid, HSpec.out, if_neg h4, if_neg h5, if_pos h6]⟩))))
                · exact .inr (.inr (.inr (.inr (.inr ⟨e1, e2, e3, e5, by rw [bne_eq_false_iff_eq]; omega, by rw [Hid, HSpec.out, if_neg h4, if_neg h5, if_neg h6]⟩))))
      have gw1 := gw_of _ _ hs1 hl
      have gw2 := gw_of _ _ hs2 hl
      have gw3 := gw_of _ _ hs3 hl
      rw [show ((1 + i : Nat) : Int) = 1 + (i : Int) from by push_cast; rfl] at gw1
      rw [show ((1 + i + j : Nat) : Int) = 1 + (i : Int) + (j : Int) from by push_cast; rfl] at gw2
      rw [show ((1 + i + j + k : Nat) : Int) = 1 + (i : Int) + (j : Int) + (k : Int) from by push_cast; rfl] at gw3
      clear hs1 hs2 hs3
      subst hA
      clear HSpec hi hx hj hy hk hv hb1 hb2 hb3 hne hb hb0 hhd hd0 e0 hd0'
      rcases hcase with ⟨k1, hs⟩ | ⟨k1, k2, hs⟩ | ⟨k1, k2, k3, hs⟩ | ⟨k1, k2, k3, k4, hs⟩ | ⟨k1, k2, k3, k4, k5, hs⟩ | ⟨k1, k2, k3, k4, k5, hs⟩
      all_goals
        go_enter Tryz.func36, Tryz.ntmps36
        go_wp2_with (first
          | (go_at_call_of 72 A2; refine (ref01_Get A2 c2 b2 _ r2).mono ?_; rintro e w1 ⟨rfl, rfl⟩; rw [← HY.out, ← HK.out])
          | (go_at_call_of 72 A1; refine (ref01_Get A1 c1 b1 _ r1).mono ?_; rintro e w1 ⟨rfl, rfl⟩; rw [← HX.out, ← HJ.out])
          | (go_at_call 72; refine (ref01_Get A0 c0 d0 _ r0).mono ?_; rintro e w1 ⟨rfl, rfl⟩; rw [← HV.out, ← HI.out])
          | (go_at_call 73; refine (ref01_Fixed A3 c3 b3 _ r3).mono ?_; rintro e w1 ⟨rfl, rfl⟩))
        (try simp only [Exit.inBlock, Exit.then])
        refine bodyPost_ret (results_four rfl _ _ _) rfl ?_
        exact ⟨by rw [hs.out]; rfl, rfl⟩
end Go.Proofs.YtdghbnkegahdnaaGreat.B
