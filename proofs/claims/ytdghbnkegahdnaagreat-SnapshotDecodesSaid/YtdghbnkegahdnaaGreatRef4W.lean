/- The walks of the references of objects: which states may be. -/
import Derived.Test.YtdghbnkegahdnaaGreatObjsW
set_option linter.unusedVariables false
set_option linter.unusedSimpArgs false
set_option maxRecDepth 100000
set_option maxHeartbeats 2000000
namespace Go.Proofs.YtdghbnkegahdnaaGreat.B
open Go Go.RowKit Go.Proofs

theorem ref04_cut (n : Int) (w : World) : Calls Tryz.prog 119 #[.int .i64 n] w fun e w' => e = .returned (.int .i64 (cutI n)) ∧ w = w' := by
  by_cases h1 : n < -1099511627776
  · have hs : Hid (cutI n = -1099511627776) := by rw [Hid, cutI, if_pos h1]
    go_enter Tryz.func119, Tryz.ntmps119
    go_wp2_with fail
    go_ret
    exact ⟨rint hs.out.symm, rfl⟩
  · by_cases h2 : 1099511627776 < n
    · have hs : Hid (cutI n = 1099511627776) := by rw [Hid, cutI, if_neg h1, if_pos h2]
      go_enter Tryz.func119, Tryz.ntmps119
      go_wp2_with fail
      go_ret
      exact ⟨rint hs.out.symm, rfl⟩
    · have hs : Hid (cutI n = n) := by rw [Hid, cutI, if_neg h1, if_neg h2]
      go_enter Tryz.func119, Tryz.ntmps119
      go_wp2_with fail
      go_ret
      exact ⟨rint hs.out.symm, rfl⟩
theorem ref04_pairs (A : Option Addr) (c : Nat) (l : List Int) (least : Int) (w : World) (hr : Rd eI w A c l) (hl : l.length ≤ 4000000000000) :
    Calls Tryz.prog 118 #[.slice A l.length c, .int .i64 least] w fun e w' => e = .returned (.bool (pairsI l least)) ∧ Ex w w' := by
  by_cases h1 : l.length % 2 = 0 ∧ l.length ≤ 128
  · obtain ⟨h1, h128⟩ := h1
    have h1b : (((l.length : Int) % 2 != 0)) = false := by rw [bne_eq_false_iff_eq]; omega
    have h2b : ¬ (128 : Int) < (l.length : Int) := by omega
    have hp : Hid (pairsI l least = pairsA least (-1) l) := by
      rw [Hid, pairsI, decide_eq_true h1, decide_eq_true h128]; simp
    have H1 := Lib.hid h1
    clear h1
    go_enter Tryz.func118, Tryz.ntmps118
    go_wp2_with fail
    go_loopw [5] (fun i wr => ∃ (k : Nat) (last : Int), i = .int .i64 k ∧ k ≤ l.length ∧ Hid (k % 2 = 0) ∧ Ex w wr ∧ (0 < k → l[k - 2]? = some last ∧ 0 ≤ last) ∧ (k = 0 → last = -1) ∧ Hid (pairsA least (-1) l = pairsA least last (l.drop k))) (fun i _ => (l.length - intOf i).toNat)
    case atStart => exact ⟨0, -1, rfl, by omega, rfl, Ex.refl w, by simp, fun _ => rfl, rfl⟩
    case round =>
      obtain ⟨k, last, rfl, hk, hk2, hx, hla, hl0, he⟩ := hrel
      have hrx := hr.ex hx
      by_cases hlt : k < l.length
      · have hlt1 : k + 1 < l.length := by have := H1.out; have := hk2.out; omega
        obtain ⟨ad, rfl, hc0⟩ := hrx.at1 rfl hlt rfl
        obtain ⟨ad', hsome, hc1⟩ := hrx.at1 rfl hlt1 rfl
        cases hsome
        have hst : pairsA least (-1) l = if l[k] ≤ last ∨ 255 < l[k] ∨ l[k + 1] < least ∨ 1099511627776 < l[k + 1] then false else pairsA least l[k] (l.drop (k + 2)) := by
          have h := he.out
          rw [← List.getElem_cons_drop (h := hlt), ← List.getElem_cons_drop (h := hlt1), pairsA] at h
          exact h
        have hnext : l[k + 2 - 2]? = some l[k] := by rw [show k + 2 - 2 = k by omega]; exact List.getElem?_eq_getElem hlt
        obtain ⟨x, hx⟩ : ∃ x, x = l[k] := ⟨_, rfl⟩
        obtain ⟨y, hy⟩ : ∃ y, y = l[k + 1] := ⟨_, rfl⟩
        rw [← hx] at hc0 hst hnext
        rw [← hy] at hc1 hst
        have Hnext := Lib.hid hnext
        clear hx hy he hnext
        have gk1 : IntKind.i64.wrap ((k : Int) + 1) = (k : Int) + 1 := IntWalk.i64_in _ (by omega)
        have gk2 : (0 : Int) ≤ (k : Int) + 1 := by omega
        have gk3 : ((k : Int) + 1).toNat = k + 1 := by omega
        have gk4 : (k : Int) + 1 < (l.length : Int) := by omega
        have gk5 : (k : Int) < (l.length : Int) := by omega
        have gk6 : (0 : Int) ≤ (k : Int) := by omega
        rcases Nat.eq_zero_or_pos k with h0 | h0
        · have hm1 := hl0 h0
          have h00 : ¬ 0 < k := by omega
          have h01 : ¬ (0 : Int) < (k : Int) := by omega
          subst hm1
          clear h0 hla hl0
          have hway : (x < 0) ∨ (¬ x < 0 ∧ 255 < x) ∨ (¬ x < 0 ∧ ¬ 255 < x ∧ y < least) ∨ (¬ x < 0 ∧ ¬ 255 < x ∧ ¬ y < least ∧ 1099511627776 < y) ∨ (¬ x < 0 ∧ ¬ 255 < x ∧ ¬ y < least ∧ ¬ 1099511627776 < y) := by omega
          have l0 := lat_cell hc0
          have l1 := lat_cell hc1
          rw [add_succ] at l1
          have d0 : decide (0 < k) = false := decide_eq_false h00
          rcases hway with e1 | ⟨e1, e2⟩ | ⟨e1, e2, e3⟩ | ⟨e1, e2, e3, e4⟩ | ⟨e1, e2, e3, e4⟩
          · have hf : Hid (pairsI l least = false) := by rw [Hid, hp.out, hst, if_pos (by omega)]
            have d1 : decide (x < 0) = true := decide_eq_true e1
            clear hst e1
            go_wp2_with fail
            refine wp_region_ex (by kernel_rfl) (by kernel_rfl) ?_
            repeat (go_big_quiet_step (fail))
            refine wpQuiet_nil ?_
            rintro _ ⟨y5, rfl⟩
            go_wp2_with fail
            go_ret
            exact ⟨rbool hf.out.symm, hx.trans y5.ex⟩
          · have hf : Hid (pairsI l least = false) := by rw [Hid, hp.out, hst, if_pos (by omega)]
            have d1 : decide (x < 0) = false := decide_eq_false e1
            have d2 : decide (255 < x) = true := decide_eq_true e2
            clear hst e1 e2
            go_wp2_with fail
            refine wp_region_ex (by kernel_rfl) (by kernel_rfl) ?_
            repeat (go_big_quiet_step (fail))
            refine wpQuiet_nil ?_
            rintro _ ⟨y5, rfl⟩
            go_wp2_with fail
            go_ret
            exact ⟨rbool hf.out.symm, hx.trans y5.ex⟩
          · have hf : Hid (pairsI l least = false) := by rw [Hid, hp.out, hst, if_pos (by omega)]
            have d1 : decide (x < 0) = false := decide_eq_false e1
            have d2 : decide (255 < x) = false := decide_eq_false e2
            have d3 : decide (y < least) = true := decide_eq_true e3
            clear hst e1 e2 e3
            go_wp2_with fail
            refine wp_region_ex (by kernel_rfl) (by kernel_rfl) ?_
            repeat (go_big_quiet_step (fail))
            refine wpQuiet_nil ?_
            rintro _ ⟨y5, rfl⟩
            go_wp2_with fail
            go_ret
            exact ⟨rbool hf.out.symm, hx.trans y5.ex⟩
          · have hf : Hid (pairsI l least = false) := by rw [Hid, hp.out, hst, if_pos (by omega)]
            have d1 : decide (x < 0) = false := decide_eq_false e1
            have d2 : decide (255 < x) = false := decide_eq_false e2
            have d3 : decide (y < least) = false := decide_eq_false e3
            have d4 : decide (1099511627776 < y) = true := decide_eq_true e4
            clear hst e1 e2 e3 e4
            go_wp2_with fail
            refine wp_region_ex (by kernel_rfl) (by kernel_rfl) ?_
            repeat (go_big_quiet_step (fail))
            refine wpQuiet_nil ?_
            rintro _ ⟨y5, rfl⟩
            go_wp2_with fail
            go_ret
            exact ⟨rbool hf.out.symm, hx.trans y5.ex⟩
          · have hf : Hid (pairsA least (-1) l = pairsA least x (l.drop (k + 2))) := by rw [Hid, hst, if_neg (by omega)]
            have hx0 : 0 ≤ x := by omega
            have d1 : decide (x < 0) = false := decide_eq_false e1
            have d2 : decide (255 < x) = false := decide_eq_false e2
            have d3 : decide (y < least) = false := decide_eq_false e3
            have d4 : decide (1099511627776 < y) = false := decide_eq_false e4
            clear hst e1 e2 e3 e4
            go_wp2_with fail
            refine wp_region_ex (by kernel_rfl) (by kernel_rfl) ?_
            repeat (go_big_quiet_step (fail))
            refine wpQuiet_nil ?_
            rintro _ ⟨y5, rfl⟩
            go_wp2_with fail
            go_roundw
            case rel => exact ⟨k + 2, x, rfl, by omega, by have := hk2.out; rw [Hid]; omega, hx.trans y5.ex, fun _ => ⟨Hnext.out, hx0⟩, fun h => by omega, hf⟩
            case measure => simp [intOf]; omega
        · obtain ⟨hl2, hlast⟩ := hla h0
          have hk2' : k - 2 < l.length := by omega
          obtain ⟨ad', hsome, hc2⟩ := hrx.at1 rfl hk2' rfl
          cases hsome
          have hl3 : l[k - 2] = last := by rw [List.getElem?_eq_getElem hk2'] at hl2; exact Option.some.inj hl2
          rw [hl3] at hc2
          have h2le : 2 ≤ k := by have := hk2.out; omega
          have gm1 : IntKind.i64.wrap ((k : Int) - 2) = (k : Int) - 2 := IntWalk.i64_in _ (by omega)
          have gm2 : (0 : Int) ≤ (k : Int) - 2 := by omega
          have gm3 : ((k : Int) - 2).toNat = k - 2 := by omega
          have gm4 : (k : Int) - 2 < (l.length : Int) := by omega
          clear hl2 hl3 hl0 hla
          have hway : (x < 0) ∨ (¬ x < 0 ∧ 255 < x) ∨ (¬ x < 0 ∧ ¬ 255 < x ∧ x ≤ last) ∨ (¬ x < 0 ∧ ¬ 255 < x ∧ ¬ x ≤ last ∧ y < least) ∨ (¬ x < 0 ∧ ¬ 255 < x ∧ ¬ x ≤ last ∧ ¬ y < least ∧ 1099511627776 < y) ∨ (¬ x < 0 ∧ ¬ 255 < x ∧ ¬ x ≤ last ∧ ¬ y < least ∧ ¬ 1099511627776 < y) := by omega
          have l0 := lat_cell hc0
          have l1 := lat_cell hc1
          rw [add_succ] at l1
          have l2 := lat_cell hc2
          have d0 : decide (0 < k) = true := decide_eq_true h0
          rcases hway with e1 | ⟨e1, e2⟩ | ⟨e1, e2, e3⟩ | ⟨e1, e2, e3, e4⟩ | ⟨e1, e2, e3, e4, e5⟩ | ⟨e1, e2, e3, e4, e5⟩
          · have hf : Hid (pairsI l least = false) := by rw [Hid, hp.out, hst, if_pos (by omega)]
            have d1 : decide (x < 0) = true := decide_eq_true e1
            clear hst e1
            go_wp2_with fail
            refine wp_region_ex (by kernel_rfl) (by kernel_rfl) ?_
            repeat (go_big_quiet_step (fail))
            refine wpQuiet_nil ?_
            rintro _ ⟨y5, rfl⟩
            go_wp2_with fail
            go_ret
            exact ⟨rbool hf.out.symm, hx.trans y5.ex⟩
          · have hf : Hid (pairsI l least = false) := by rw [Hid, hp.out, hst, if_pos (by omega)]
            have d1 : decide (x < 0) = false := decide_eq_false e1
            have d2 : decide (255 < x) = true := decide_eq_true e2
            clear hst e1 e2
            go_wp2_with fail
            refine wp_region_ex (by kernel_rfl) (by kernel_rfl) ?_
            repeat (go_big_quiet_step (fail))
            refine wpQuiet_nil ?_
            rintro _ ⟨y5, rfl⟩
            go_wp2_with fail
            go_ret
            exact ⟨rbool hf.out.symm, hx.trans y5.ex⟩
          · have hf : Hid (pairsI l least = false) := by rw [Hid, hp.out, hst, if_pos (by omega)]
            have d1 : decide (x < 0) = false := decide_eq_false e1
            have d2 : decide (255 < x) = false := decide_eq_false e2
            have d3 : decide (x ≤ last) = true := decide_eq_true e3
            clear hst e1 e2 e3
            go_wp2_with fail
            refine wp_region_ex (by kernel_rfl) (by kernel_rfl) ?_
            repeat (go_big_quiet_step (fail))
            refine wpQuiet_nil ?_
            rintro _ ⟨y5, rfl⟩
            go_wp2_with fail
            go_ret
            exact ⟨rbool hf.out.symm, hx.trans y5.ex⟩
          · have hf : Hid (pairsI l least = false) := by rw [Hid, hp.out, hst, if_pos (by omega)]
            have d1 : decide (x < 0) = false := decide_eq_false e1
            have d2 : decide (255 < x) = false := decide_eq_false e2
            have d3 : decide (x ≤ last) = false := decide_eq_false e3
            have d4 : decide (y < least) = true := decide_eq_true e4
            clear hst e1 e2 e3 e4
            go_wp2_with fail
            refine wp_region_ex (by kernel_rfl) (by kernel_rfl) ?_
            repeat (go_big_quiet_step (fail))
            refine wpQuiet_nil ?_
            rintro _ ⟨y5, rfl⟩
            go_wp2_with fail
            go_ret
            exact ⟨rbool hf.out.symm, hx.trans y5.ex⟩
          · have hf : Hid (pairsI l least = false) := by rw [Hid, hp.out, hst, if_pos (by omega)]
            have d1 : decide (x < 0) = false := decide_eq_false e1
            have d2 : decide (255 < x) = false := decide_eq_false e2
            have d3 : decide (x ≤ last) = false := decide_eq_false e3
            have d4 : decide (y < least) = false := decide_eq_false e4
            have d5 : decide (1099511627776 < y) = true := decide_eq_true e5
            clear hst e1 e2 e3 e4 e5
            go_wp2_with fail
            refine wp_region_ex (by kernel_rfl) (by kernel_rfl) ?_
            repeat (go_big_quiet_step (fail))
            refine wpQuiet_nil ?_
            rintro _ ⟨y5, rfl⟩
            go_wp2_with fail
            go_ret
            exact ⟨rbool hf.out.symm, hx.trans y5.ex⟩
          · have hf : Hid (pairsA least (-1) l = pairsA least x (l.drop (k + 2))) := by rw [Hid, hst, if_neg (by omega)]
            have hx0 : 0 ≤ x := by omega
            have d1 : decide (x < 0) = false := decide_eq_false e1
            have d2 : decide (255 < x) = false := decide_eq_false e2
            have d3 : decide (x ≤ last) = false := decide_eq_false e3
            have d4 : decide (y < least) = false := decide_eq_false e4
            have d5 : decide (1099511627776 < y) = false := decide_eq_false e5
            clear hst e1 e2 e3 e4 e5
            go_wp2_with fail
            refine wp_region_ex (by kernel_rfl) (by kernel_rfl) ?_
            repeat (go_big_quiet_step (fail))
            refine wpQuiet_nil ?_
            rintro _ ⟨y5, rfl⟩
            go_wp2_with fail
            go_roundw
            case rel => exact ⟨k + 2, x, rfl, by omega, by have := hk2.out; rw [Hid]; omega, hx.trans y5.ex, fun _ => ⟨Hnext.out, hx0⟩, fun h => by omega, hf⟩
            case measure => simp [intOf]; omega
      · have hf : Hid (pairsI l least = true) := by
          rw [Hid, hp.out, he.out, List.drop_of_length_le (by omega)]; rfl
        clear he
        go_wp2_with fail
        go_ret
        exact ⟨rbool hf.out.symm, hx⟩
  · have hf : Hid (pairsI l least = false) := by
      rw [Hid, pairsI]
      by_cases h2 : l.length % 2 = 0
      · rw [decide_eq_false (p := l.length ≤ 128) (fun h => h1 ⟨h2, h⟩)]; simp
      · rw [decide_eq_false h2]; simp
    by_cases h2 : l.length % 2 = 0
    · have h1b : (((l.length : Int) % 2 != 0)) = false := by rw [bne_eq_false_iff_eq]; omega
      have h2b : (128 : Int) < (l.length : Int) := by omega
      clear h1 h2
      go_enter Tryz.func118, Tryz.ntmps118
      go_wp2_with fail
      go_ret
      exact ⟨rbool hf.out.symm, Ex.refl w⟩
    · have h1b : (((l.length : Int) % 2 != 0)) = true := by rw [bne_iff_ne]; omega
      clear h1 h2
      go_enter Tryz.func118, Tryz.ntmps118
      go_wp2_with fail
      go_ret
      exact ⟨rbool hf.out.symm, Ex.refl w⟩
theorem ref04_May (s : St) (A : Option Addr) (c : Nat) (w : World) (hr : Rd eI w A c s.l) (hl : s.l.length ≤ 4000000000000) :
    Calls Tryz.prog 77 #[.agg #[.int .i64 s.kind, .slice A s.l.length c, .bool s.sealed, .int .i64 s.to]] w fun e w' => e = .returned (.bool (mayS s)) ∧ Ex w w' := by
  obtain ⟨kind, l, sd, tt⟩ := s
  simp only at hr hl ⊢
  have hx0 : Ex w (w.alloc (.cells #[.int .i64 kind, .slice A l.length c, .bool sd, .int .i64 tt] 36)) := (Ex.refl w).alloc _
  have hm0 : mayS ⟨kind, l, sd, tt⟩ = if tt < 0 ∨ 3 ≤ tt ∨ (sd = false ∧ tt ≠ 0) then false else if kind = 0 ∨ kind = 1 then decide (l.length = 1) && !l.any uncut
    else if kind = 2 ∨ kind = 3 then decide (l.length ≤ 64) && !l.any uncut else if kind = 4 then pairsI l (-1099511627776) else if kind = 5 then pairsI l 0 else false := rfl
  by_cases h1 : tt < 0
  · have hs : Hid (mayS ⟨kind, l, sd, tt⟩ = false) := by rw [Hid, hm0, if_pos (.inl h1)]
    clear hm0
    go_enter Tryz.func77, Tryz.ntmps77
    go_wp2_with fail
    go_ret
    exact ⟨rbool hs.out.symm, hx0⟩
  · by_cases h2 : 2 < tt
    · have hs : Hid (mayS ⟨kind, l, sd, tt⟩ = false) := by rw [Hid, hm0, if_pos (.inr (.inl (by omega)))]
      clear hm0
      go_enter Tryz.func77, Tryz.ntmps77
      go_wp2_with fail
      go_ret
      exact ⟨rbool hs.out.symm, hx0⟩
    · by_cases h3 : sd = false ∧ tt ≠ 0
      · have hs : Hid (mayS ⟨kind, l, sd, tt⟩ = false) := by rw [Hid, hm0, if_pos (.inr (.inr h3))]
        obtain ⟨rfl, h3⟩ := h3
        have h3b : (tt != 0) = true := by rw [bne_iff_ne]; exact h3
        clear h3 hm0
        go_enter Tryz.func77, Tryz.ntmps77
        go_wp2_with fail
        go_ret
        exact ⟨rbool hs.out.symm, hx0⟩
      · have hh : mayS ⟨kind, l, sd, tt⟩ = if kind = 0 ∨ kind = 1 then decide (l.length = 1) && !l.any uncut
            else if kind = 2 ∨ kind = 3 then decide (l.length ≤ 64) && !l.any uncut else if kind = 4 then pairsI l (-1099511627776) else if kind = 5 then pairsI l 0 else false := by
          rw [hm0, if_neg (by rintro (h | h | h); exact h1 h; omega; exact h3 h)]
        clear hm0
        have h3b : sd = true ∨ (sd = false ∧ (tt != 0) = false) := by
          cases sd
          · exact .inr ⟨rfl, by rw [bne_eq_false_iff_eq]; exact Classical.byContradiction fun h => h3 ⟨rfl, h⟩⟩
          · exact .inl rfl
        clear h3
        rcases h3b with rfl | ⟨rfl, h3b⟩
        · by_cases h4 : kind < 0
          · have hs : Hid (mayS ⟨kind, l, true, tt⟩ = false) := by
              rw [Hid, hh, if_neg (by omega), if_neg (by omega), if_neg (by omega), if_neg (by omega)]
            clear hh
            go_enter Tryz.func77, Tryz.ntmps77
            go_wp2_with fail
            go_ret
            exact ⟨rbool hs.out.symm, hx0⟩
          · by_cases h5 : 6 ≤ kind
            · have hs : Hid (mayS ⟨kind, l, true, tt⟩ = false) := by
                rw [Hid, hh, if_neg (by omega), if_neg (by omega), if_neg (by omega), if_neg (by omega)]
              clear hh
              go_enter Tryz.func77, Tryz.ntmps77
              go_wp2_with fail
              go_ret
              exact ⟨rbool hs.out.symm, hx0⟩
            · by_cases h6 : kind = 4
              · have hs : Hid (mayS ⟨kind, l, true, tt⟩ = pairsI l (-1099511627776)) := by
                  rw [Hid, hh, if_neg (by omega), if_neg (by omega), if_pos h6]
                have h6b : (kind == 4) = true := by rw [beq_iff_eq]; exact h6
                clear hh h6
                go_enter Tryz.func77, Tryz.ntmps77
                go_wp2_with (go_at_call 118; go_loud (refine (ref04_pairs A c l _ _ (hr.ex hx0) hl).mono ?_); rintro e w1 ⟨rfl, hx1⟩)
                go_ret
                exact ⟨rbool hs.out.symm, hx0.trans hx1⟩
              · have h6b : (kind == 4) = false := by rw [beq_eq_false_iff_ne]; exact h6
                by_cases h7 : kind = 5
                · have hs : Hid (mayS ⟨kind, l, true, tt⟩ = pairsI l 0) := by
                    rw [Hid, hh, if_neg (by omega), if_neg (by omega), if_neg h6, if_pos h7]
                  have h7b : (kind == 5) = true := by rw [beq_iff_eq]; exact h7
                  clear hh h6 h7
                  go_enter Tryz.func77, Tryz.ntmps77
                  go_wp2_with (go_at_call 118; go_loud (refine (ref04_pairs A c l _ _ (hr.ex hx0) hl).mono ?_); rintro e w1 ⟨rfl, hx1⟩)
                  go_ret
                  exact ⟨rbool hs.out.symm, hx0.trans hx1⟩
                · have h7b : (kind == 5) = false := by rw [beq_eq_false_iff_ne]; exact h7
                  have hs0 : mayS ⟨kind, l, true, tt⟩ = if kind ≤ 1 then decide (l.length = 1) && !l.any uncut else decide (l.length ≤ 64) && !l.any uncut := by
                    rw [hh]
                    by_cases hk : kind ≤ 1
                    · rw [if_pos (by omega), if_pos hk]
                    · rw [if_neg (by omega), if_pos (by omega), if_neg hk]
                  clear hh h6 h7
                  by_cases h8 : 64 < l.length
                  · have hs : Hid (mayS ⟨kind, l, true, tt⟩ = false) := by
                      rw [Hid, hs0, decide_eq_false (p := l.length = 1) (by omega), decide_eq_false (p := l.length ≤ 64) (by omega)]; simp
                    have h8b : (64 : Int) < (l.length : Int) := by omega
                    clear hs0
                    go_enter Tryz.func77, Tryz.ntmps77
                    go_wp2_with fail
                    go_ret
                    exact ⟨rbool hs.out.symm, hx0⟩
                  · have h8b : ¬ (64 : Int) < (l.length : Int) := by omega
                    by_cases h9 : l.length ≠ 1 ∧ kind ≤ 1
                    · have hs : Hid (mayS ⟨kind, l, true, tt⟩ = false) := by
                        rw [Hid, hs0, if_pos h9.2, decide_eq_false h9.1]; simp
                      have h9b : ((l.length : Int) != 1) = true := by rw [bne_iff_ne]; omega
                      have h9c := h9.2
                      clear hs0 h9
                      go_enter Tryz.func77, Tryz.ntmps77
                      go_wp2_with fail
                      go_ret
                      exact ⟨rbool hs.out.symm, hx0⟩
                    · have hs : Hid (mayS ⟨kind, l, true, tt⟩ = !l.any uncut) := by
                        rw [Hid, hs0]
                        split
                        · rename_i h; rw [decide_eq_true (p := l.length = 1) (Classical.byContradiction fun h' => h9 ⟨h', h⟩), Bool.true_and]
                        · rw [decide_eq_true (p := l.length ≤ 64) (by omega), Bool.true_and]
                      have h9b : ((l.length : Int) != 1) = false ∨ (((l.length : Int) != 1) = true ∧ ¬ kind ≤ 1) := by
                        by_cases h : l.length = 1
                        · left; rw [h]; rfl
                        · right; exact ⟨by rw [bne_iff_ne]; omega, fun h' => h9 ⟨h, h'⟩⟩
                      clear hs0 h9
                      have hc1 := (new_cell (u := .slice A l.length c) w #[.int .i64 kind, .slice A l.length c, .bool true, .int .i64 tt] 36 1 rfl).1
                      rcases h9b with h9b | ⟨h9b, h9c⟩
                      all_goals
                        go_enter Tryz.func77, Tryz.ntmps77
                        go_wp2_with fail
                        go_loopw [3] (fun i wr => ∃ k : Nat, i = .int .i64 k ∧ k ≤ l.length ∧ Ex (w.alloc (.cells #[.int .i64 kind, .slice A l.length c, .bool true, .int .i64 tt] 36)) wr ∧ Hid ((l.take k).any uncut = false)) (fun i _ => (l.length - intOf i).toNat)
                        case atStart => exact ⟨0, rfl, by omega, Ex.refl _, by simp [Hid]⟩
                        case round =>
                          obtain ⟨k, rfl, hk, hx, ha⟩ := hrel
                          have hq1 := hx.cell hc1
                          by_cases hlt : k < l.length
                          · obtain ⟨ad, rfl, hc⟩ := ((hr.ex hx0).ex hx).at1 rfl hlt rfl
                            have gk5 : (k : Int) < (l.length : Int) := by omega
                            have gk6 : (0 : Int) ≤ (k : Int) := by omega
                            obtain ⟨x, hxx⟩ : ∃ x, x = l[k] := ⟨_, rfl⟩
                            rw [← hxx] at hc
                            cases hu : uncut x with
                            | true =>
                              have hub : (x != cutI x) = true := hu
                              have hs2 : Hid (mayS ⟨kind, l, true, tt⟩ = false) := by
                                rw [Hid, hs.out, show l.any uncut = true from List.any_eq_true.2 ⟨l[k], List.getElem_mem hlt, by rw [← hxx]; exact hu⟩]; rfl
                              clear hxx hu
                              have l1 := lat_cell hq1
                              have l2 := lat_cell hc
                              go_wp2_with fail
                              refine wp_region_ex (by kernel_rfl) (by kernel_rfl) ?_
                              repeat (go_big_quiet_step ((go_at_call 119; exact lat_same (v := .int .i64 (cutI x)) (fun W _ => ref04_cut x W))))
                              refine wpQuiet_nil ?_
                              rintro _ ⟨y5, rfl⟩
                              go_wp2_with fail
                              go_ret
                              exact ⟨rbool hs2.out.symm, (hx0.trans hx).trans y5.ex⟩
                            | false =>
                              have hub : (x != cutI x) = false := hu
                              have ha2 : Hid ((l.take (k + 1)).any uncut = false) := any_take_succ ha.out hlt (by rw [← hxx]; exact hu)
                              clear hxx hu
                              have l1 := lat_cell hq1
                              have l2 := lat_cell hc
                              go_wp2_with fail
                              refine wp_region_ex (by kernel_rfl) (by kernel_rfl) ?_
                              repeat (go_big_quiet_step ((go_at_call 119; exact lat_same (v := .int .i64 (cutI x)) (fun W _ => ref04_cut x W))))
                              refine wpQuiet_nil ?_
                              rintro _ ⟨y5, rfl⟩
                              go_wp2_with fail
                              go_roundw
                              case rel => exact ⟨k + 1, rfl, by omega, hx.trans y5.ex, ha2⟩
                              case measure => simp [intOf]; omega
                          · have hs2 : Hid (mayS ⟨kind, l, true, tt⟩ = true) := by
                              have h := ha.out
                              rw [List.take_of_length_le (by omega)] at h
                              rw [Hid, hs.out, h]; rfl
                            go_wp2_with fail
                            go_ret
                            exact ⟨rbool hs2.out.symm, hx0.trans hx⟩
        · by_cases h4 : kind < 0
          · have hs : Hid (mayS ⟨kind, l, false, tt⟩ = false) := by
              rw [Hid, hh, if_neg (by omega), if_neg (by omega), if_neg (by omega), if_neg (by omega)]
            clear hh
            go_enter Tryz.func77, Tryz.ntmps77
            go_wp2_with fail
            go_ret
            exact ⟨rbool hs.out.symm, hx0⟩
          · by_cases h5 : 6 ≤ kind
            · have hs : Hid (mayS ⟨kind, l, false, tt⟩ = false) := by
                rw [Hid, hh, if_neg (by omega), if_neg (by omega), if_neg (by omega), if_neg (by omega)]
              clear hh
              go_enter Tryz.func77, Tryz.ntmps77
              go_wp2_with fail
              go_ret
              exact ⟨rbool hs.out.symm, hx0⟩
            · by_cases h6 : kind = 4
              · have hs : Hid (mayS ⟨kind, l, false, tt⟩ = pairsI l (-1099511627776)) := by
                  rw [Hid, hh, if_neg (by omega), if_neg (by omega), if_pos h6]
                have h6b : (kind == 4) = true := by rw [beq_iff_eq]; exact h6
                clear hh h6
                go_enter Tryz.func77, Tryz.ntmps77
                go_wp2_with (go_at_call 118; go_loud (refine (ref04_pairs A c l _ _ (hr.ex hx0) hl).mono ?_); rintro e w1 ⟨rfl, hx1⟩)
                go_ret
                exact ⟨rbool hs.out.symm, hx0.trans hx1⟩
              · have h6b : (kind == 4) = false := by rw [beq_eq_false_iff_ne]; exact h6
                by_cases h7 : kind = 5
                · have hs : Hid (mayS ⟨kind, l, false, tt⟩ = pairsI l 0) := by
                    rw [Hid, hh, if_neg (by omega), if_neg (by omega), if_neg h6, if_pos h7]
                  have h7b : (kind == 5) = true := by rw [beq_iff_eq]; exact h7
                  clear hh h6 h7
                  go_enter Tryz.func77, Tryz.ntmps77
                  go_wp2_with (go_at_call 118; go_loud (refine (ref04_pairs A c l _ _ (hr.ex hx0) hl).mono ?_); rintro e w1 ⟨rfl, hx1⟩)
                  go_ret
                  exact ⟨rbool hs.out.symm, hx0.trans hx1⟩
                · have h7b : (kind == 5) = false := by rw [beq_eq_false_iff_ne]; exact h7
                  have hs0 : mayS ⟨kind, l, false, tt⟩ = if kind ≤ 1 then decide (l.length = 1) && !l.any uncut else decide (l.length ≤ 64) && !l.any uncut := by
                    rw [hh]
                    by_cases hk : kind ≤ 1
                    · rw [if_pos (by omega), if_pos hk]
                    · rw [if_neg (by omega), if_pos (by omega), if_neg hk]
                  clear hh h6 h7
                  by_cases h8 : 64 < l.length
                  · have hs : Hid (mayS ⟨kind, l, false, tt⟩ = false) := by
                      rw [Hid, hs0, decide_eq_false (p := l.length = 1) (by omega), decide_eq_false (p := l.length ≤ 64) (by omega)]; simp
                    have h8b : (64 : Int) < (l.length : Int) := by omega
                    clear hs0
                    go_enter Tryz.func77, Tryz.ntmps77
                    go_wp2_with fail
                    go_ret
                    exact ⟨rbool hs.out.symm, hx0⟩
                  · have h8b : ¬ (64 : Int) < (l.length : Int) := by omega
                    by_cases h9 : l.length ≠ 1 ∧ kind ≤ 1
                    · have hs : Hid (mayS ⟨kind, l, false, tt⟩ = false) := by
                        rw [Hid, hs0, if_pos h9.2, decide_eq_false h9.1]; simp
                      have h9b : ((l.length : Int) != 1) = true := by rw [bne_iff_ne]; omega
                      have h9c := h9.2
                      clear hs0 h9
                      go_enter Tryz.func77, Tryz.ntmps77
                      go_wp2_with fail
                      go_ret
                      exact ⟨rbool hs.out.symm, hx0⟩
                    · have hs : Hid (mayS ⟨kind, l, false, tt⟩ = !l.any uncut) := by
                        rw [Hid, hs0]
                        split
                        · rename_i h; rw [decide_eq_true (p := l.length = 1) (Classical.byContradiction fun h' => h9 ⟨h', h⟩), Bool.true_and]
                        · rw [decide_eq_true (p := l.length ≤ 64) (by omega), Bool.true_and]
                      have h9b : ((l.length : Int) != 1) = false ∨ (((l.length : Int) != 1) = true ∧ ¬ kind ≤ 1) := by
                        by_cases h : l.length = 1
                        · left; rw [h]; rfl
                        · right; exact ⟨by rw [bne_iff_ne]; omega, fun h' => h9 ⟨h, h'⟩⟩
                      clear hs0 h9
                      have hc1 := (new_cell (u := .slice A l.length c) w #[.int .i64 kind, .slice A l.length c, .bool false, .int .i64 tt] 36 1 rfl).1
                      rcases h9b with h9b | ⟨h9b, h9c⟩
                      all_goals
                        go_enter Tryz.func77, Tryz.ntmps77
                        go_wp2_with fail
                        go_loopw [3] (fun i wr => ∃ k : Nat, i = .int .i64 k ∧ k ≤ l.length ∧ Ex (w.alloc (.cells #[.int .i64 kind, .slice A l.length c, .bool false, .int .i64 tt] 36)) wr ∧ Hid ((l.take k).any uncut = false)) (fun i _ => (l.length - intOf i).toNat)
                        case atStart => exact ⟨0, rfl, by omega, Ex.refl _, by simp [Hid]⟩
                        case round =>
                          obtain ⟨k, rfl, hk, hx, ha⟩ := hrel
                          have hq1 := hx.cell hc1
                          by_cases hlt : k < l.length
                          · obtain ⟨ad, rfl, hc⟩ := ((hr.ex hx0).ex hx).at1 rfl hlt rfl
                            have gk5 : (k : Int) < (l.length : Int) := by omega
                            have gk6 : (0 : Int) ≤ (k : Int) := by omega
                            obtain ⟨x, hxx⟩ : ∃ x, x = l[k] := ⟨_, rfl⟩
                            rw [← hxx] at hc
                            cases hu : uncut x with
                            | true =>
                              have hub : (x != cutI x) = true := hu
                              have hs2 : Hid (mayS ⟨kind, l, false, tt⟩ = false) := by
                                rw [Hid, hs.out, show l.any uncut = true from List.any_eq_true.2 ⟨l[k], List.getElem_mem hlt, by rw [← hxx]; exact hu⟩]; rfl
                              clear hxx hu
                              have l1 := lat_cell hq1
                              have l2 := lat_cell hc
                              go_wp2_with fail
                              refine wp_region_ex (by kernel_rfl) (by kernel_rfl) ?_
                              repeat (go_big_quiet_step ((go_at_call 119; exact lat_same (v := .int .i64 (cutI x)) (fun W _ => ref04_cut x W))))
                              refine wpQuiet_nil ?_
                              rintro _ ⟨y5, rfl⟩
                              go_wp2_with fail
                              go_ret
                              exact ⟨rbool hs2.out.symm, (hx0.trans hx).trans y5.ex⟩
                            | false =>
                              have hub : (x != cutI x) = false := hu
                              have ha2 : Hid ((l.take (k + 1)).any uncut = false) := any_take_succ ha.out hlt (by rw [← hxx]; exact hu)
                              clear hxx hu
                              have l1 := lat_cell hq1
                              have l2 := lat_cell hc
                              go_wp2_with fail
                              refine wp_region_ex (by kernel_rfl) (by kernel_rfl) ?_
                              repeat (go_big_quiet_step ((go_at_call 119; exact lat_same (v := .int .i64 (cutI x)) (fun W _ => ref04_cut x W))))
                              refine wpQuiet_nil ?_
                              rintro _ ⟨y5, rfl⟩
                              go_wp2_with fail
                              go_roundw
                              case rel => exact ⟨k + 1, rfl, by omega, hx.trans y5.ex, ha2⟩
                              case measure => simp [intOf]; omega
                          · have hs2 : Hid (mayS ⟨kind, l, false, tt⟩ = true) := by
                              have h := ha.out
                              rw [List.take_of_length_le (by omega)] at h
                              rw [Hid, hs.out, h]; rfl
                            go_wp2_with fail
                            go_ret
                            exact ⟨rbool hs2.out.symm, hx0.trans hx⟩
end Go.Proofs.YtdghbnkegahdnaaGreat.B
