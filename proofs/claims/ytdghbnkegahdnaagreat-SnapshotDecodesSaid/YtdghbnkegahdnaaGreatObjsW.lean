/- The walks of package objs: cut, Fits, pairs, May, Same. -/
import Derived.Test.YtdghbnkegahdnaaGreatSlI
import Derived.Test.YtdghbnkegahdnaaGreatObjs
set_option linter.unusedVariables false
set_option linter.unusedSimpArgs false
set_option maxRecDepth 100000
set_option maxHeartbeats 1000000
namespace Go.Proofs.YtdghbnkegahdnaaGreat.B
open Go Go.RowKit Go.Proofs

theorem objs_cut (n : Int) (w : World) : Calls Tryz.prog 112 #[.int .i64 n] w fun e w' => e = .returned (.int .i64 (cutI n)) ∧ w = w' := by
  have hc : Hid (cutI n = if n < -1099511627776 then -1099511627776 else if 1099511627776 < n then 1099511627776 else n) := rfl
  by_cases h1 : n < -1099511627776
  · have h2 : ¬ 1099511627776 < n := by omega
    have hd : Hid (cutI n = -1099511627776) := by have h := hc.out; rw [if_pos h1] at h; exact h
    go_enter Tryz.func112, Tryz.ntmps112
    go_wp2_with fail
    all_goals (go_ret; exact ⟨rint (by have := hd.out; omega), rfl⟩)
  · by_cases h2 : 1099511627776 < n
    · have hd : Hid (cutI n = 1099511627776) := by have h := hc.out; rw [if_neg h1, if_pos h2] at h; exact h
      go_enter Tryz.func112, Tryz.ntmps112
      go_wp2_with fail
      all_goals (go_ret; exact ⟨rint (by have := hd.out; omega), rfl⟩)
    · have hd : Hid (cutI n = n) := by have h := hc.out; rw [if_neg h1, if_neg h2] at h; exact h
      go_enter Tryz.func112, Tryz.ntmps112
      go_wp2_with fail
      all_goals (go_ret; exact ⟨rint (by have := hd.out; omega), rfl⟩)
theorem fv_may : Fv Tryz.prog 111 := ⟨_, Tryz.func111, by kernel_rfl, rfl⟩
theorem objs_May1 (n : Int) (w : World) : Calls Tryz.prog 111 #[.int .i64 n] w fun e w' => e = .returned (.bool (uncut n)) ∧ w = w' := by
  go_enter Tryz.func111, Tryz.ntmps111
  go_wp2_with (go_at_call 112; (with_reducible refine (objs_cut _ _).mono ?_); rintro e w' ⟨rfl, rfl⟩)
  go_ret
  exact ⟨rfl, rfl⟩
theorem objs_Fits (o : Opn) (w : World) : Calls Tryz.prog 92 #[.agg #[.int .i64 o.code, .int .i64 o.a, .int .i64 o.b]] w fun e w' => e = .returned (.bool (fitsO o)) ∧ Ex w w' := by
  obtain ⟨c, a, b⟩ := o
  have hf : Hid (fitsO ⟨c, a, b⟩ = (decide (0 ≤ c) && decide (c ≤ 10) && (a == cutI a) && (b == cutI b))) := rfl
  cases h1 : decide (0 ≤ c) <;> cases h2 : decide (c ≤ 10) <;> cases h3 : (a == cutI a) <;> cases h4 : (b == cutI b)
  all_goals
    rw [h1, h2, h3, h4] at hf
    simp only
    go_enter Tryz.func92, Tryz.ntmps92
    go_wp2_with fail
    go_quiet ((go_at_call 112; exact quiet_left (objs_cut _ _)))
    go_wp2_with fail
    go_ret
    exact ⟨rbool (by rw [hf.out]; rfl), ((Ex.refl w).alloc _).drewN _⟩

theorem objs_pairs (A : Option Addr) (c : Nat) (l : List Int) (least : Int) (w : World) (hr : Rd eI w A c l) (hl : l.length ≤ 4000000000000) :
    Calls Tryz.prog 113 #[.slice A l.length c, .int .i64 least] w fun e w' => e = .returned (.bool (pairsI l least)) ∧ w = w' := by
  go_enter Tryz.func113, Tryz.ntmps113
  go_wp2_with fail
  go_loop [5, 6] (fun z i => ∃ (k : Nat) (last : Int), i = .int .i64 k ∧ k ≤ l.length + 1 ∧ k % 2 = 0 ∧ z = .int .i64 last ∧ Hid (pairsA least (-1) l = pairsA least last (l.drop k))) (fun _ i => (l.length + 2 - intOf i).toNat)
  case atStart => exact ⟨0, -1, rfl, by omega, rfl, rfl, rfl⟩
  case round =>
    obtain ⟨k, last, rfl, hk, hk2, rfl, he⟩ := hrel
    by_cases hlt : k + 1 < l.length
    · have hk0 : k < l.length := by omega
      obtain ⟨ad, rfl, hc0⟩ := hr.at1 rfl hk0 rfl
      obtain ⟨ad', hsome, hc1⟩ := hr.at1 rfl hlt rfl
      cases hsome
      rw [add_succ] at hc1
      have hlt2 : (k : Int) + 1 < (l.length : Int) := by omega
      have hst : Hid (pairsA least (-1) l = if l[k] ≤ last ∨ 255 < l[k] ∨ l[k + 1] < least ∨ 1099511627776 < l[k + 1] then false else pairsA least l[k] (l.drop (k + 2))) := by
        have h := he.out
        rw [← List.getElem_cons_drop (h := hk0), ← List.getElem_cons_drop (h := hlt), pairsA] at h
        exact h
      obtain ⟨x, hx⟩ : ∃ x, x = l[k] := ⟨_, rfl⟩
      obtain ⟨y, hy⟩ : ∃ y, y = l[k + 1] := ⟨_, rfl⟩
      rw [← hx] at hc0 hst
      rw [← hy] at hc1 hst
      have Hk2 := Lib.hid hk2
      clear hx hy he hk2
      by_cases h1 : x ≤ last ∨ 255 < x ∨ y < least ∨ 1099511627776 < y
      · have hf : Hid (pairsI l least = false) := by
          have h := hst.out; rw [if_pos h1] at h; unfold pairsI Hid; rw [h]; rfl
        go_wp2_with fail
        all_goals first
          | (go_ret; exact ⟨rbool hf.out.symm, rfl⟩)
          | (exfalso; omega)
      · have hf : Hid (pairsA least (-1) l = pairsA least x (l.drop (k + 2))) := by
          have h := hst.out; rw [if_neg h1] at h; exact h
        have h2 : ¬ x ≤ last := by omega
        have h3 : ¬ 255 < x := by omega
        have h4 : ¬ y < least := by omega
        have h5 : ¬ 1099511627776 < y := by omega
        clear h1
        go_wp2_with fail
        go_round
        case rel => exact ⟨k + 2, x, rfl, by omega, by have := Hk2.out; omega, rfl, hf⟩
        case measure => simp [intOf]; omega
    · have hlt2 : ¬ (k : Int) + 1 < (l.length : Int) := by omega
      have hf : Hid (pairsI l least = (decide (l.length % 2 = 0) && decide (l.length ≤ 128))) := by
        have h := he.out
        rw [pairsA_odd least last (l.drop k) (by rw [List.length_drop]; omega)] at h
        unfold pairsI Hid; rw [h, Bool.true_and]
      have Hk2 := Lib.hid hk2
      clear he hk2
      by_cases h1 : l.length % 2 = 0
      · have h1b : (((l.length : Int) % 2 == 0)) = true := by rw [beq_iff_eq]; omega
        have hf2 : Hid (pairsI l least = decide ((l.length : Int) ≤ 128)) := by
          have h := hf.out; rw [decide_eq_true h1, Bool.true_and] at h; rw [Hid, h]; exact decide_eq_decide.2 (by omega)
        clear h1
        go_wp2_with fail
        go_ret
        exact ⟨rbool hf2.out.symm, rfl⟩
      · have h1b : (((l.length : Int) % 2 == 0)) = false := by rw [beq_eq_false_iff_ne]; omega
        have hf2 : Hid (pairsI l least = false) := by
          have h := hf.out; rw [decide_eq_false h1, Bool.false_and] at h; exact h
        clear h1
        go_wp2_with fail
        go_ret
        exact ⟨rbool hf2.out.symm, rfl⟩

/-- A state as a value. -/
def stV (kind : Int) (A : Option Addr) (n c : Nat) (sealed : Bool) (tt : Int) : Value := .agg #[.int .i64 kind, .slice A n c, .bool sealed, .int .i64 tt]
theorem objs_May (s : St) (A : Option Addr) (c : Nat) (w : World) (hr : Rd eI w A c s.l) (hl : s.l.length ≤ 4000000000000) :
    Calls Tryz.prog 70 #[.agg #[.int .i64 s.kind, .slice A s.l.length c, .bool s.sealed, .int .i64 s.to]] w fun e w' => e = .returned (.bool (mayS s)) ∧ Ex w w' := by
  obtain ⟨kind, l, sealed, tt⟩ := s
  simp only at hr hl ⊢
  have hx0 := (Ex.refl w).alloc (.cells #[.int .i64 kind, .slice A l.length c, .bool sealed, .int .i64 tt] 36)
  have hr0 := hr.ex hx0
  by_cases hbad : tt < 0 ∨ 3 ≤ tt ∨ (sealed = false ∧ tt ≠ 0)
  · have hm : Hid (mayS ⟨kind, l, sealed, tt⟩ = false) := if_pos hbad
    by_cases h1 : tt < 0
    · clear hbad
      go_enter Tryz.func70, Tryz.ntmps70
      go_wp2_with fail
      go_ret
      exact ⟨rbool hm.out.symm, hx0⟩
    · by_cases h2 : 3 ≤ tt
      · clear hbad
        go_enter Tryz.func70, Tryz.ntmps70
        go_wp2_with fail
        go_ret
        exact ⟨rbool hm.out.symm, hx0⟩
      · obtain ⟨rfl, h4⟩ : sealed = false ∧ tt ≠ 0 := by rcases hbad with h | h | h; exact absurd h h1; exact absurd h h2; exact h
        have h5 : (tt != 0) = true := by rw [bne_iff_ne]; exact h4
        clear hbad h4
        go_enter Tryz.func70, Tryz.ntmps70
        go_wp2_with fail
        go_ret
        exact ⟨rbool hm.out.symm, hx0⟩
  · have hm : mayS ⟨kind, l, sealed, tt⟩ = if kind = 0 ∨ kind = 1 then decide (l.length = 1) && !l.any uncut else if kind = 2 ∨ kind = 3 then decide (l.length ≤ 64) && !l.any uncut else if kind = 4 then pairsI l (-1099511627776) else if kind = 5 then pairsI l 0 else false := if_neg hbad
    have h1 : ¬ tt < 0 := by omega
    have h2 : ¬ 3 ≤ tt := by omega
    have h5 : sealed = false → (tt != 0) = false := fun h => by rw [bne_eq_false_iff_eq]; exact Classical.byContradiction fun h' => hbad (.inr (.inr ⟨h, h'⟩))
    clear hbad
    have e1 : decide (l.length = 1) = ((l.length : Int) == 1) := by rw [Bool.eq_iff_iff, decide_eq_true_iff, beq_iff_eq]; omega
    have e2 : decide (l.length ≤ 64) = decide ((l.length : Int) ≤ 64) := decide_eq_decide.2 (by omega)
    rw [e1, e2] at hm
    clear e1 e2
    by_cases k0 : kind = 0
    · subst k0
      have Hm : Hid (mayS ⟨0, l, sealed, tt⟩ = (((l.length : Int) == 1) && !l.any uncut)) := hm
      clear hm
      cases hb : ((l.length : Int) == 1) <;> cases sealed
      all_goals
        rw [hb] at Hm
        have h6 := h5
        simp only [reduceCtorEq, false_implies, true_implies] at h6
        go_enter Tryz.func70, Tryz.ntmps70
        go_wp2_with ((go_at_call 110; (with_reducible refine (slices_ContainsFuncI uncut _ fv_may objs_May1 A c l _ hr0).mono ?_); rintro e w1 ⟨rfl, rfl⟩))
        go_ret
        exact ⟨rbool Hm.out.symm, hx0⟩
    by_cases k1 : kind = 1
    · subst k1
      have Hm : Hid (mayS ⟨1, l, sealed, tt⟩ = (((l.length : Int) == 1) && !l.any uncut)) := hm
      clear hm
      cases hb : ((l.length : Int) == 1) <;> cases sealed
      all_goals
        rw [hb] at Hm
        have h6 := h5
        simp only [reduceCtorEq, false_implies, true_implies] at h6
        go_enter Tryz.func70, Tryz.ntmps70
        go_wp2_with ((go_at_call 110; (with_reducible refine (slices_ContainsFuncI uncut _ fv_may objs_May1 A c l _ hr0).mono ?_); rintro e w1 ⟨rfl, rfl⟩))
        go_ret
        exact ⟨rbool Hm.out.symm, hx0⟩
    by_cases k2 : kind = 2
    · subst k2
      have Hm : Hid (mayS ⟨2, l, sealed, tt⟩ = (decide ((l.length : Int) ≤ 64) && !l.any uncut)) := hm
      clear hm
      cases hb : decide ((l.length : Int) ≤ 64) <;> cases sealed
      all_goals
        rw [hb] at Hm
        have h6 := h5
        simp only [reduceCtorEq, false_implies, true_implies] at h6
        go_enter Tryz.func70, Tryz.ntmps70
        go_wp2_with ((go_at_call 110; (with_reducible refine (slices_ContainsFuncI uncut _ fv_may objs_May1 A c l _ hr0).mono ?_); rintro e w1 ⟨rfl, rfl⟩))
        go_ret
        exact ⟨rbool Hm.out.symm, hx0⟩
    by_cases k3 : kind = 3
    · subst k3
      have Hm : Hid (mayS ⟨3, l, sealed, tt⟩ = (decide ((l.length : Int) ≤ 64) && !l.any uncut)) := hm
      clear hm
      cases hb : decide ((l.length : Int) ≤ 64) <;> cases sealed
      all_goals
        rw [hb] at Hm
        have h6 := h5
        simp only [reduceCtorEq, false_implies, true_implies] at h6
        go_enter Tryz.func70, Tryz.ntmps70
        go_wp2_with ((go_at_call 110; (with_reducible refine (slices_ContainsFuncI uncut _ fv_may objs_May1 A c l _ hr0).mono ?_); rintro e w1 ⟨rfl, rfl⟩))
        go_ret
        exact ⟨rbool Hm.out.symm, hx0⟩
    by_cases k4 : kind = 4
    · subst k4
      have Hm : Hid (mayS ⟨4, l, sealed, tt⟩ = pairsI l (-1099511627776)) := hm
      clear hm
      cases sealed
      all_goals
        have h6 := h5
        simp only [reduceCtorEq, false_implies, true_implies] at h6
        go_enter Tryz.func70, Tryz.ntmps70
        go_wp2_with (first | (go_at_call 110; (with_reducible refine (slices_ContainsFuncI uncut _ fv_may objs_May1 A c l _ hr0).mono ?_); rintro e w1 ⟨rfl, rfl⟩) | (go_at_call 113; (with_reducible refine (objs_pairs A c l _ _ hr0 hl).mono ?_); rintro e w1 ⟨rfl, rfl⟩))
        go_ret
        exact ⟨rbool Hm.out.symm, hx0⟩
    by_cases k5 : kind = 5
    · subst k5
      have Hm : Hid (mayS ⟨5, l, sealed, tt⟩ = pairsI l 0) := hm
      clear hm
      cases sealed
      all_goals
        have h6 := h5
        simp only [reduceCtorEq, false_implies, true_implies] at h6
        go_enter Tryz.func70, Tryz.ntmps70
        go_wp2_with (first | (go_at_call 110; (with_reducible refine (slices_ContainsFuncI uncut _ fv_may objs_May1 A c l _ hr0).mono ?_); rintro e w1 ⟨rfl, rfl⟩) | (go_at_call 113; (with_reducible refine (objs_pairs A c l _ _ hr0 hl).mono ?_); rintro e w1 ⟨rfl, rfl⟩))
        go_ret
        exact ⟨rbool Hm.out.symm, hx0⟩
    have Hm : Hid (mayS ⟨kind, l, sealed, tt⟩ = false) := by rw [hm, if_neg (by omega), if_neg (by omega), if_neg k4, if_neg k5]; rfl
    have j0 : (kind == 0) = false := by rw [beq_eq_false_iff_ne]; exact k0
    have j1 : (kind == 1) = false := by rw [beq_eq_false_iff_ne]; exact k1
    have j2 : (kind == 2) = false := by rw [beq_eq_false_iff_ne]; exact k2
    have j3 : (kind == 3) = false := by rw [beq_eq_false_iff_ne]; exact k3
    have j4 : (kind == 4) = false := by rw [beq_eq_false_iff_ne]; exact k4
    have j5 : (kind == 5) = false := by rw [beq_eq_false_iff_ne]; exact k5
    clear hm k0 k1 k2 k3 k4 k5
    cases sealed
    all_goals
      have h6 := h5
      simp only [reduceCtorEq, false_implies, true_implies] at h6
      go_enter Tryz.func70, Tryz.ntmps70
      go_wp2_with ((go_at_call 110; (with_reducible refine (slices_ContainsFuncI uncut _ fv_may objs_May1 A c l _ hr0).mono ?_); rintro e w1 ⟨rfl, rfl⟩))
      go_ret
      exact ⟨rbool Hm.out.symm, hx0⟩
end Go.Proofs.YtdghbnkegahdnaaGreat.B
