/- The walks of the references of snapshots: Same, Table, May, cut. -/
import Derived.Test.YtdghbnkegahdnaaGreatRef4W
import Derived.Test.YtdghbnkegahdnaaGreatSnapU
import Derived.Test.YtdghbnkegahdnaaGreatAwk
set_option linter.unusedVariables false
set_option linter.unusedSimpArgs false
set_option maxRecDepth 100000
set_option maxHeartbeats 2000000
namespace Go.Proofs.YtdghbnkegahdnaaGreat.B
open Go Go.RowKit Go.Proofs

theorem ref04_Same_eq (s : St) (A : Option Addr) (c : Nat) (B : Option Addr) (d : Nat) (w : World) (hr : Rd eI w A c s.l) (hr' : Rd eI w B d s.l) (hl : s.l.length ≤ 4000000000000) :
    Calls Tryz.prog 41 #[.agg #[.int .i64 s.kind, .slice A s.l.length c, .bool s.sealed, .int .i64 s.to], .agg #[.int .i64 s.kind, .slice B s.l.length d, .bool s.sealed, .int .i64 s.to]] w fun e w' => e = .returned (.bool true) ∧ Ex w w' := by
  obtain ⟨k, l, sd, tt⟩ := s
  simp only at hr hr' hl ⊢
  have hx2 := ((Ex.refl w).alloc (.cells #[.int .i64 k, .slice A l.length c, .bool sd, .int .i64 tt] 36)).alloc (.cells #[.int .i64 k, .slice B l.length d, .bool sd, .int .i64 tt] 36)
  obtain ⟨W, hW⟩ : ∃ W, W = (w.alloc (.cells #[.int .i64 k, .slice A l.length c, .bool sd, .int .i64 tt] 36)).alloc (.cells #[.int .i64 k, .slice B l.length d, .bool sd, .int .i64 tt] 36) := ⟨_, rfl⟩
  have hq : W.cell? ⟨w.heap.size, 1, none⟩ = some (.slice A l.length c) := by
    rw [hW]; exact (((Ex.refl _).alloc _).both (new_cell (u := .slice A l.length c) w #[.int .i64 k, .slice A l.length c, .bool sd, .int .i64 tt] 36 1 rfl)).1
  have hp : W.cell? ⟨w.heap.size + 1, 1, none⟩ = some (.slice B l.length d) := by
    rw [hW]; exact (new_cell1 (u := .slice B l.length d) w _ #[.int .i64 k, .slice B l.length d, .bool sd, .int .i64 tt] 36 1 rfl).1
  rw [← hW] at hx2
  have HW := Lib.hid hW
  have Hq := Lib.hid hq; have Hp := Lib.hid hp
  clear hW hq hp
  go_enter Tryz.func41, Tryz.ntmps41
  go_wp2_with fail
  rw [← HW.out]
  go_loopw [5] (fun i wr => ∃ j : Nat, i = .int .i64 j ∧ j ≤ l.length ∧ Ex W wr) (fun i _ => (l.length - intOf i).toNat)
  case atStart => exact ⟨0, rfl, by omega, Ex.refl _⟩
  case round =>
    obtain ⟨j, rfl, hj, hx⟩ := hrel
    have hq := hx.cell Hq.out
    have hp := hx.cell Hp.out
    have hxw := hx2.trans hx
    by_cases hlt : j < l.length
    · obtain ⟨ad, rfl, hc⟩ := (hr.ex hxw).at1 rfl hlt rfl
      obtain ⟨ad', rfl, hc'⟩ := (hr'.ex hxw).at1 rfl hlt rfl
      have gk5 : (j : Int) < (l.length : Int) := by omega
      have gk6 : (0 : Int) ≤ (j : Int) := by omega
      have l1 := lat_cell hq
      have l2 := lat_cell hp
      have l3 := lat_cell hc
      have l4 := lat_cell hc'
      go_wp2_with fail
      refine wp_region_ex (by kernel_rfl) (by kernel_rfl) ?_
      repeat (go_big_quiet_step (fail))
      refine wpQuiet_nil ?_
      rintro _ ⟨y5, rfl⟩
      go_wp2_with fail
      go_roundw
      case rel => exact ⟨j + 1, rfl, by omega, hx.trans y5.ex⟩
      case measure => simp [intOf]; omega
    · go_wp2_with fail
      go_ret
      exact ⟨rfl, hxw⟩
theorem ref09_Table (A : Option Addr) (c : Nat) (t : List Ent) (w : World) (hr : Rd eE w A c t) :
    Calls Tryz.prog 78 #[.slice A t.length c] w fun e w' => e = .returned (.bool (tabA (-1) t)) ∧ Ex w w' := by
  have hl63 := hr.lt63
  go_enter Tryz.func78, Tryz.ntmps78
  go_wp2_with fail
  go_loopw [3] (fun i wr => ∃ (k : Nat) (last : Int), i = .int .i64 k ∧ k ≤ t.length ∧ Ex w wr ∧ (0 < k → ∃ x, t[k - 1]? = some x ∧ x.proc = last) ∧ (k = 0 → last = -1) ∧ Hid (tabA (-1) t = tabA last (t.drop k))) (fun i _ => (t.length - intOf i).toNat)
  case atStart => exact ⟨0, -1, rfl, by omega, Ex.refl w, by simp, fun _ => rfl, rfl⟩
  case round =>
    obtain ⟨k, last, rfl, hk, hx, hla, hl0, he⟩ := hrel
    by_cases hlt : k < t.length
    · obtain ⟨ad, rfl, hc⟩ := entAt (hr.ex hx) hlt
      obtain ⟨x, hx0⟩ : ∃ x, x = t[k] := ⟨_, rfl⟩
      have hst : tabA (-1) t = if fitsE x = false ∨ x.proc ≤ last then false else tabA x.proc (t.drop (k + 1)) := by
        have h := he.out
        rw [← List.getElem_cons_drop (h := hlt), tabA, ← hx0] at h
        exact h
      rw [← hx0] at hc
      obtain ⟨c0, c1, c2⟩ := hc
      have Hx : Hid (t[k]? = some x) := by rw [Hid, hx0]; exact List.getElem?_eq_getElem hlt
      clear hx0 he
      obtain ⟨p, sq, rs⟩ := x
      simp only at c0 c1 c2 hst
      have gk5 : (k : Int) < (t.length : Int) := by omega
      have gk6 : (0 : Int) ≤ (k : Int) := by omega
      have hway : (p < 0) ∨ (¬ p < 0 ∧ 64 < p) ∨ (¬ p < 0 ∧ ¬ 64 < p ∧ sq < 0) ∨ (¬ p < 0 ∧ ¬ 64 < p ∧ ¬ sq < 0 ∧ 4611686018427387904 ≤ sq) ∨ (¬ p < 0 ∧ ¬ 64 < p ∧ ¬ sq < 0 ∧ ¬ 4611686018427387904 ≤ sq ∧ rs < -1125899906842624) ∨ (¬ p < 0 ∧ ¬ 64 < p ∧ ¬ sq < 0 ∧ ¬ 4611686018427387904 ≤ sq ∧ ¬ rs < -1125899906842624 ∧ 1125899906842624 < rs) ∨ (¬ p < 0 ∧ ¬ 64 < p ∧ ¬ sq < 0 ∧ ¬ 4611686018427387904 ≤ sq ∧ ¬ rs < -1125899906842624 ∧ ¬ 1125899906842624 < rs) := by omega
      rcases hway with e1 | ⟨e1, e2⟩ | ⟨e1, e2, e3⟩ | ⟨e1, e2, e3, e4⟩ | ⟨e1, e2, e3, e4, e5⟩ | ⟨e1, e2, e3, e4, e5, e6⟩ | ⟨e1, e2, e3, e4, e5, e6⟩
      · have hf : fitsE ⟨p, sq, rs⟩ = false := Bool.eq_false_iff.2 (fun h => by have := (fitsE_iff _).1 h; simp only at this; omega)
        have hs : Hid (tabA (-1) t = false) := by rw [Hid, hst, if_pos (.inl hf)]
        have d1 : decide (p < 0) = true := decide_eq_true e1
        clear hst hf hla hl0 e1
        go_wp2_with fail
        have q0 := lat_cell (new_cell (u := .int .i64 p) wr #[.int .i64 p, .int .i64 sq, .int .i64 rs] 72 0 rfl).1
        have q1 := lat_cell (new_cell (u := .int .i64 sq) wr #[.int .i64 p, .int .i64 sq, .int .i64 rs] 72 1 rfl).1
        have q2 := lat_cell (new_cell (u := .int .i64 rs) wr #[.int .i64 p, .int .i64 sq, .int .i64 rs] 72 2 rfl).1
        refine wp_region_ex (by kernel_rfl) (by kernel_rfl) ?_
        repeat (go_big_quiet_step (fail))
        refine wpQuiet_nil ?_
        rintro _ ⟨y5, rfl⟩
        go_wp2_with fail
        go_ret
        exact ⟨rbool hs.out.symm, (hx.alloc _).trans y5.ex⟩
      · have hf : fitsE ⟨p, sq, rs⟩ = false := Bool.eq_false_iff.2 (fun h => by have := (fitsE_iff _).1 h; simp only at this; omega)
        have hs : Hid (tabA (-1) t = false) := by rw [Hid, hst, if_pos (.inl hf)]
        have d1 : decide (p < 0) = false := decide_eq_false e1
        have d2 : decide (64 < p) = true := decide_eq_true e2
        clear hst hf hla hl0 e1 e2
        go_wp2_with fail
        have q0 := lat_cell (new_cell (u := .int .i64 p) wr #[.int .i64 p, .int .i64 sq, .int .i64 rs] 72 0 rfl).1
        have q1 := lat_cell (new_cell (u := .int .i64 sq) wr #[.int .i64 p, .int .i64 sq, .int .i64 rs] 72 1 rfl).1
        have q2 := lat_cell (new_cell (u := .int .i64 rs) wr #[.int .i64 p, .int .i64 sq, .int .i64 rs] 72 2 rfl).1
        refine wp_region_ex (by kernel_rfl) (by kernel_rfl) ?_
        repeat (go_big_quiet_step (fail))
        refine wpQuiet_nil ?_
        rintro _ ⟨y5, rfl⟩
        go_wp2_with fail
        go_ret
        exact ⟨rbool hs.out.symm, (hx.alloc _).trans y5.ex⟩
      · have hf : fitsE ⟨p, sq, rs⟩ = false := Bool.eq_false_iff.2 (fun h => by have := (fitsE_iff _).1 h; simp only at this; omega)
        have hs : Hid (tabA (-1) t = false) := by rw [Hid, hst, if_pos (.inl hf)]
        have d1 : decide (p < 0) = false := decide_eq_false e1
        have d2 : decide (64 < p) = false := decide_eq_false e2
        have d3 : decide (sq < 0) = true := decide_eq_true e3
        clear hst hf hla hl0 e1 e2 e3
        go_wp2_with fail
        have q0 := lat_cell (new_cell (u := .int .i64 p) wr #[.int .i64 p, .int .i64 sq, .int .i64 rs] 72 0 rfl).1
        have q1 := lat_cell (new_cell (u := .int .i64 sq) wr #[.int .i64 p, .int .i64 sq, .int .i64 rs] 72 1 rfl).1
        have q2 := lat_cell (new_cell (u := .int .i64 rs) wr #[.int .i64 p, .int .i64 sq, .int .i64 rs] 72 2 rfl).1
        refine wp_region_ex (by kernel_rfl) (by kernel_rfl) ?_
        repeat (go_big_quiet_step (fail))
        refine wpQuiet_nil ?_
        rintro _ ⟨y5, rfl⟩
        go_wp2_with fail
        go_ret
        exact ⟨rbool hs.out.symm, (hx.alloc _).trans y5.ex⟩
      · have hf : fitsE ⟨p, sq, rs⟩ = false := Bool.eq_false_iff.2 (fun h => by have := (fitsE_iff _).1 h; simp only at this; omega)
        have hs : Hid (tabA (-1) t = false) := by rw [Hid, hst, if_pos (.inl hf)]
        have d1 : decide (p < 0) = false := decide_eq_false e1
        have d2 : decide (64 < p) = false := decide_eq_false e2
        have d3 : decide (sq < 0) = false := decide_eq_false e3
        have d4 : decide (4611686018427387904 ≤ sq) = true := decide_eq_true e4
        clear hst hf hla hl0 e1 e2 e3 e4
        go_wp2_with fail
        have q0 := lat_cell (new_cell (u := .int .i64 p) wr #[.int .i64 p, .int .i64 sq, .int .i64 rs] 72 0 rfl).1
        have q1 := lat_cell (new_cell (u := .int .i64 sq) wr #[.int .i64 p, .int .i64 sq, .int .i64 rs] 72 1 rfl).1
        have q2 := lat_cell (new_cell (u := .int .i64 rs) wr #[.int .i64 p, .int .i64 sq, .int .i64 rs] 72 2 rfl).1
        refine wp_region_ex (by kernel_rfl) (by kernel_rfl) ?_
        repeat (go_big_quiet_step (fail))
        refine wpQuiet_nil ?_
        rintro _ ⟨y5, rfl⟩
        go_wp2_with fail
        go_ret
        exact ⟨rbool hs.out.symm, (hx.alloc _).trans y5.ex⟩
      · have hf : fitsE ⟨p, sq, rs⟩ = false := Bool.eq_false_iff.2 (fun h => by have := (fitsE_iff _).1 h; simp only at this; omega)
        have hs : Hid (tabA (-1) t = false) := by rw [Hid, hst, if_pos (.inl hf)]
        have d1 : decide (p < 0) = false := decide_eq_false e1
        have d2 : decide (64 < p) = false := decide_eq_false e2
        have d3 : decide (sq < 0) = false := decide_eq_false e3
        have d4 : decide (4611686018427387904 ≤ sq) = false := decide_eq_false e4
        have d5 : decide (rs < -1125899906842624) = true := decide_eq_true e5
        clear hst hf hla hl0 e1 e2 e3 e4 e5
        go_wp2_with fail
        have q0 := lat_cell (new_cell (u := .int .i64 p) wr #[.int .i64 p, .int .i64 sq, .int .i64 rs] 72 0 rfl).1
        have q1 := lat_cell (new_cell (u := .int .i64 sq) wr #[.int .i64 p, .int .i64 sq, .int .i64 rs] 72 1 rfl).1
        have q2 := lat_cell (new_cell (u := .int .i64 rs) wr #[.int .i64 p, .int .i64 sq, .int .i64 rs] 72 2 rfl).1
        refine wp_region_ex (by kernel_rfl) (by kernel_rfl) ?_
        repeat (go_big_quiet_step (fail))
        refine wpQuiet_nil ?_
        rintro _ ⟨y5, rfl⟩
        go_wp2_with fail
        go_ret
        exact ⟨rbool hs.out.symm, (hx.alloc _).trans y5.ex⟩
      · have hf : fitsE ⟨p, sq, rs⟩ = false := Bool.eq_false_iff.2 (fun h => by have := (fitsE_iff _).1 h; simp only at this; omega)
        have hs : Hid (tabA (-1) t = false) := by rw [Hid, hst, if_pos (.inl hf)]
        have d1 : decide (p < 0) = false := decide_eq_false e1
        have d2 : decide (64 < p) = false := decide_eq_false e2
        have d3 : decide (sq < 0) = false := decide_eq_false e3
        have d4 : decide (4611686018427387904 ≤ sq) = false := decide_eq_false e4
        have d5 : decide (rs < -1125899906842624) = false := decide_eq_false e5
        have d6 : decide (1125899906842624 < rs) = true := decide_eq_true e6
        clear hst hf hla hl0 e1 e2 e3 e4 e5 e6
        go_wp2_with fail
        have q0 := lat_cell (new_cell (u := .int .i64 p) wr #[.int .i64 p, .int .i64 sq, .int .i64 rs] 72 0 rfl).1
        have q1 := lat_cell (new_cell (u := .int .i64 sq) wr #[.int .i64 p, .int .i64 sq, .int .i64 rs] 72 1 rfl).1
        have q2 := lat_cell (new_cell (u := .int .i64 rs) wr #[.int .i64 p, .int .i64 sq, .int .i64 rs] 72 2 rfl).1
        refine wp_region_ex (by kernel_rfl) (by kernel_rfl) ?_
        repeat (go_big_quiet_step (fail))
        refine wpQuiet_nil ?_
        rintro _ ⟨y5, rfl⟩
        go_wp2_with fail
        go_ret
        exact ⟨rbool hs.out.symm, (hx.alloc _).trans y5.ex⟩
      · have hf : fitsE ⟨p, sq, rs⟩ = true := (fitsE_iff _).2 (by simp only; omega)
        have d1 : decide (p < 0) = false := decide_eq_false e1
        have d2 : decide (64 < p) = false := decide_eq_false e2
        have d3 : decide (sq < 0) = false := decide_eq_false e3
        have d4 : decide (4611686018427387904 ≤ sq) = false := decide_eq_false e4
        have d5 : decide (rs < -1125899906842624) = false := decide_eq_false e5
        have d6 : decide (1125899906842624 < rs) = false := decide_eq_false e6
        clear e2 e3 e4 e5 e6
        rcases Nat.eq_zero_or_pos k with h0 | h0
        · have hm1 := hl0 h0
          subst hm1
          have hs : Hid (tabA (-1) t = tabA p (t.drop (k + 1))) := by rw [Hid, hst, if_neg (by rw [hf]; simp; omega)]
          have d0 : decide (0 < k) = false := decide_eq_false (by omega)
          clear hst hla hl0 hf e1 h0
          go_wp2_with fail
          have q0 := lat_cell (new_cell (u := .int .i64 p) wr #[.int .i64 p, .int .i64 sq, .int .i64 rs] 72 0 rfl).1
          have q1 := lat_cell (new_cell (u := .int .i64 sq) wr #[.int .i64 p, .int .i64 sq, .int .i64 rs] 72 1 rfl).1
          have q2 := lat_cell (new_cell (u := .int .i64 rs) wr #[.int .i64 p, .int .i64 sq, .int .i64 rs] 72 2 rfl).1
          refine wp_region_ex (by kernel_rfl) (by kernel_rfl) ?_
          repeat (go_big_quiet_step (fail))
          refine wpQuiet_nil ?_
          rintro _ ⟨y5, rfl⟩
          go_wp2_with fail
          go_roundw
          case rel => exact ⟨k + 1, p, rfl, by omega, (hx.alloc _).trans y5.ex, fun _ => ⟨_, Hx.out, rfl⟩, fun h => by omega, hs⟩
          case measure => simp [intOf]; omega
        · obtain ⟨z, hz, hzp⟩ := hla h0
          have hk1 : k - 1 < t.length := by omega
          obtain ⟨ad', hsome, hz0, hz1, hz2⟩ := entAt (hr.ex hx) hk1
          cases hsome
          have hz3 : t[k - 1] = z := by rw [List.getElem?_eq_getElem hk1] at hz; exact Option.some.inj hz
          rw [hz3, hzp] at hz0
          have hz4 := ((Ex.refl wr).alloc (.cells #[.int .i64 p, .int .i64 sq, .int .i64 rs] 72)).cell hz0
          have gm1 : IntKind.i64.wrap ((k : Int) - 1) = (k : Int) - 1 := IntWalk.i64_in _ (by omega)
          have gm2 : (0 : Int) ≤ (k : Int) - 1 := by omega
          have gm3 : ((k : Int) - 1).toNat = k - 1 := by omega
          have gm4 : (k : Int) - 1 < (t.length : Int) := by omega
          have d0 : decide (0 < k) = true := decide_eq_true h0
          clear hla hl0 hz hzp hz1 hz2 hz3
          by_cases h7 : p ≤ last
          · have hs : Hid (tabA (-1) t = false) := by rw [Hid, hst, if_pos (.inr h7)]
            have d7 : decide (p ≤ last) = true := decide_eq_true h7
            clear hst hf h7 e1
            go_wp2_with fail
            have q0 := lat_cell (new_cell (u := .int .i64 p) wr #[.int .i64 p, .int .i64 sq, .int .i64 rs] 72 0 rfl).1
            have q1 := lat_cell (new_cell (u := .int .i64 sq) wr #[.int .i64 p, .int .i64 sq, .int .i64 rs] 72 1 rfl).1
            have q2 := lat_cell (new_cell (u := .int .i64 rs) wr #[.int .i64 p, .int .i64 sq, .int .i64 rs] 72 2 rfl).1
            have l4 := lat_cell hz4
            refine wp_region_ex (by kernel_rfl) (by kernel_rfl) ?_
            repeat (go_big_quiet_step (fail))
            refine wpQuiet_nil ?_
            rintro _ ⟨y5, rfl⟩
            go_wp2_with fail
            go_ret
            exact ⟨rbool hs.out.symm, (hx.alloc _).trans y5.ex⟩
          · have hs : Hid (tabA (-1) t = tabA p (t.drop (k + 1))) := by rw [Hid, hst, if_neg (by rw [hf]; simp; omega)]
            have d7 : decide (p ≤ last) = false := decide_eq_false h7
            clear hst hf h7 e1
            go_wp2_with fail
            have q0 := lat_cell (new_cell (u := .int .i64 p) wr #[.int .i64 p, .int .i64 sq, .int .i64 rs] 72 0 rfl).1
            have q1 := lat_cell (new_cell (u := .int .i64 sq) wr #[.int .i64 p, .int .i64 sq, .int .i64 rs] 72 1 rfl).1
            have q2 := lat_cell (new_cell (u := .int .i64 rs) wr #[.int .i64 p, .int .i64 sq, .int .i64 rs] 72 2 rfl).1
            have l4 := lat_cell hz4
            refine wp_region_ex (by kernel_rfl) (by kernel_rfl) ?_
            repeat (go_big_quiet_step (fail))
            refine wpQuiet_nil ?_
            rintro _ ⟨y5, rfl⟩
            go_wp2_with fail
            go_roundw
            case rel => exact ⟨k + 1, p, rfl, by omega, (hx.alloc _).trans y5.ex, fun _ => ⟨_, Hx.out, rfl⟩, fun h => by omega, hs⟩
            case measure => simp [intOf]; omega
    · have hs : Hid (tabA (-1) t = true) := by
        rw [Hid, he.out, List.drop_of_length_le (by omega)]; rfl
      clear he
      go_wp2_with fail
      go_ret
      exact ⟨rbool hs.out.symm, hx⟩
theorem ref09_cut (A : Option Addr) (c : Nat) (xss : List (List UInt8)) (w : World) (hr : RdS w A c xss) :
    Calls Tryz.prog 37 #[.slice A xss.length c] w fun e w' => e = .returned (.bool (cutN xss)) ∧ w = w' := by
  have hl63 := hr.len
  go_enter Tryz.func37, Tryz.ntmps37
  go_wp2_with fail
  go_loop [3] (fun i => ∃ k : Nat, i = .int .i64 k ∧ k ≤ xss.length ∧ Hid (cutN xss = cutN (xss.drop k))) (fun i => (xss.length - intOf i).toNat)
  case atStart => exact ⟨0, rfl, by omega, rfl⟩
  case round =>
    obtain ⟨k, rfl, hk, he⟩ := hrel
    by_cases hlt : k < xss.length
    · obtain ⟨ad, A', c', rfl, hc, hr'⟩ := hr.at_ hlt
      obtain ⟨x, hx⟩ : ∃ x, x = xss[k] := ⟨_, rfl⟩
      have hdn : xss.drop (k + 1) ≠ [] ↔ k + 1 < xss.length := by
        rw [Ne, List.drop_eq_nil_iff]; omega
      have hst : cutN xss = if x.length = 0 ∨ 64 < x.length ∨ (x.length < 64 ∧ k + 1 < xss.length) then false else cutN (xss.drop (k + 1)) := by
        have h := he.out
        rw [← List.getElem_cons_drop (h := hlt), cutN, ← hx] at h
        rw [h]
        exact ite_congr (by rw [hdn]) (fun _ => rfl) (fun _ => rfl)
      rw [← hx] at hc
      clear hx hdn he
      have gw : wrap64 ((xss.length : Int) - 1) = (xss.length : Int) - 1 := by unfold wrap64; omega
      rcases (by omega : x.length = 0 ∨ 64 < x.length ∨ (0 < x.length ∧ x.length < 64 ∧ k + 1 < xss.length) ∨ (0 < x.length ∧ x.length < 64 ∧ ¬ k + 1 < xss.length) ∨ x.length = 64) with h | h | ⟨h, h2, h3⟩ | ⟨h, h2, h3⟩ | h
      · have hs : Hid (cutN xss = false) := by rw [Hid, hst, if_pos (.inl h)]
        have h0 : (x.length : Int) < 1 := by omega
        have h4 : ¬ 64 < x.length := by omega
        clear hst
        go_wp2_with fail
        go_ret
        exact ⟨rbool hs.out.symm, rfl⟩
      · have hs : Hid (cutN xss = false) := by rw [Hid, hst, if_pos (.inr (.inl h))]
        have h0 : ¬ (x.length : Int) < 1 := by omega
        clear hst
        go_wp2_with fail
        go_ret
        exact ⟨rbool hs.out.symm, rfl⟩
      · have hs : Hid (cutN xss = false) := by rw [Hid, hst, if_pos (.inr (.inr ⟨h2, h3⟩))]
        have h0 : ¬ (x.length : Int) < 1 := by omega
        have h4 : ¬ 64 < x.length := by omega
        have h5 : (k : Int) < (xss.length : Int) - 1 := by omega
        clear hst
        go_wp2_with fail
        go_ret
        exact ⟨rbool hs.out.symm, rfl⟩
      · have hs : Hid (cutN xss = cutN (xss.drop (k + 1))) := by rw [Hid, hst, if_neg (by omega)]
        have h0 : ¬ (x.length : Int) < 1 := by omega
        have h4 : ¬ 64 < x.length := by omega
        have h5 : ¬ (k : Int) < (xss.length : Int) - 1 := by omega
        clear hst
        go_wp2_with fail
        go_round
        case rel => exact ⟨k + 1, rfl, by omega, hs⟩
        case measure => simp [intOf]; omega
      · have hs : Hid (cutN xss = cutN (xss.drop (k + 1))) := by rw [Hid, hst, if_neg (by omega)]
        have h0 : ¬ (x.length : Int) < 1 := by omega
        have h4 : ¬ 64 < x.length := by omega
        have h5 : ¬ x.length < 64 := by omega
        clear hst
        go_wp2_with fail
        go_round
        case rel => exact ⟨k + 1, rfl, by omega, hs⟩
        case measure => simp [intOf]; omega
    · have hs : Hid (cutN xss = true) := by
        have h := he.out
        rw [List.drop_eq_nil_of_le (by omega)] at h
        exact h
      clear he
      go_wp2_with fail
      go_ret
      exact ⟨rbool hs.out.symm, rfl⟩

theorem ref09_May (s : Snp) (A : Option Addr) (c : Nat) (B : Option Addr) (d : Nat) (w : World) (hr : Rd eI w A c s.st.l) (hl : s.st.l.length ≤ 4000000000000) (ht : Rd eE w B d s.tab) :
    Calls Tryz.prog 40 #[.agg #[.int .i64 s.index, .int .i64 s.st.kind, .slice A s.st.l.length c, .bool s.st.sealed, .int .i64 s.st.to, .slice B s.tab.length d]] w fun e w' => e = .returned (.bool (mayN s)) ∧ Ex w w' := by
  obtain ⟨ix, ⟨k, l, sd, tt⟩, t⟩ := s
  simp only at hr hl ht ⊢
  have hs0 : Hid (mayN ⟨ix, ⟨k, l, sd, tt⟩, t⟩ = (decide (0 ≤ ix) && decide (ix < 4611686018427387904) && mayS ⟨k, l, sd, tt⟩ && tabA (-1) t)) := rfl
  have hx0 : Ex w (w.alloc (.cells #[.int .i64 ix, .int .i64 k, .slice A l.length c, .bool sd, .int .i64 tt, .slice B t.length d] 39)) := (Ex.refl w).alloc _
  cases h3 : mayS ⟨k, l, sd, tt⟩
  all_goals
    cases h4 : tabA (-1) t
    all_goals
      have H3 := Lib.hid h3
      have H4 := Lib.hid h4
      clear h3 h4
      by_cases h1 : 0 ≤ ix
      · by_cases h2 : ix < 4611686018427387904
        · have D2 : Hid (decide (ix < 4611686018427387904) = true) := decide_eq_true h2
          have D1 : Hid (decide (0 ≤ ix) = true) := decide_eq_true h1
          go_enter Tryz.func40, Tryz.ntmps40
          go_wp2_with (first
            | (go_at_call 77; go_loud (refine (ref04_May ⟨k, l, sd, tt⟩ A c _ (hr.ex hx0) hl).mono ?_); rintro e w1 ⟨rfl, hx1⟩; have hx01 := hx0.trans hx1; (obtain ⟨q0, -⟩ := hx1.both (new_cell (u := .int .i64 ix) w #[.int .i64 ix, .int .i64 k, .slice A l.length c, .bool sd, .int .i64 tt, .slice B t.length d] 39 0 rfl)); (obtain ⟨q5, -⟩ := hx1.both (new_cell (u := .slice B t.length d) w #[.int .i64 ix, .int .i64 k, .slice A l.length c, .bool sd, .int .i64 tt, .slice B t.length d] 39 5 rfl)))
            | (go_at_call 78; go_loud (refine (ref09_Table B d t _ (ht.ex hx01)).mono ?_); rintro e w2 ⟨rfl, hx2⟩; rw [H3.out, H4.out]; have q0' := hx2.cell q0))
          go_ret
          exact ⟨rbool (by rw [hs0.out, H3.out, H4.out, D1.out, D2.out]; rfl), hx01.trans hx2⟩
        · have D2 : Hid (decide (ix < 4611686018427387904) = false) := decide_eq_false h2
          have D1 : Hid (decide (0 ≤ ix) = true) := decide_eq_true h1
          go_enter Tryz.func40, Tryz.ntmps40
          go_wp2_with (first
            | (go_at_call 77; go_loud (refine (ref04_May ⟨k, l, sd, tt⟩ A c _ (hr.ex hx0) hl).mono ?_); rintro e w1 ⟨rfl, hx1⟩; have hx01 := hx0.trans hx1; (obtain ⟨q0, -⟩ := hx1.both (new_cell (u := .int .i64 ix) w #[.int .i64 ix, .int .i64 k, .slice A l.length c, .bool sd, .int .i64 tt, .slice B t.length d] 39 0 rfl)); (obtain ⟨q5, -⟩ := hx1.both (new_cell (u := .slice B t.length d) w #[.int .i64 ix, .int .i64 k, .slice A l.length c, .bool sd, .int .i64 tt, .slice B t.length d] 39 5 rfl)))
            | (go_at_call 78; go_loud (refine (ref09_Table B d t _ (ht.ex hx01)).mono ?_); rintro e w2 ⟨rfl, hx2⟩; rw [H3.out, H4.out]; have q0' := hx2.cell q0))
          go_ret
          exact ⟨rbool (by rw [hs0.out, H3.out, H4.out, D1.out, D2.out]; rfl), hx01.trans hx2⟩
      · have D1 : Hid (decide (0 ≤ ix) = false) := decide_eq_false h1
        go_enter Tryz.func40, Tryz.ntmps40
        go_wp2_with (first
          | (go_at_call 77; go_loud (refine (ref04_May ⟨k, l, sd, tt⟩ A c _ (hr.ex hx0) hl).mono ?_); rintro e w1 ⟨rfl, hx1⟩; have hx01 := hx0.trans hx1; (obtain ⟨q0, -⟩ := hx1.both (new_cell (u := .int .i64 ix) w #[.int .i64 ix, .int .i64 k, .slice A l.length c, .bool sd, .int .i64 tt, .slice B t.length d] 39 0 rfl)); (obtain ⟨q5, -⟩ := hx1.both (new_cell (u := .slice B t.length d) w #[.int .i64 ix, .int .i64 k, .slice A l.length c, .bool sd, .int .i64 tt, .slice B t.length d] 39 5 rfl)))
          | (go_at_call 78; go_loud (refine (ref09_Table B d t _ (ht.ex hx01)).mono ?_); rintro e w2 ⟨rfl, hx2⟩; rw [H3.out, H4.out]; have q0' := hx2.cell q0))
        go_ret
        exact ⟨rbool (by rw [hs0.out, H3.out, H4.out, D1.out]; simp), hx01.trans hx2⟩
end Go.Proofs.YtdghbnkegahdnaaGreat.B
