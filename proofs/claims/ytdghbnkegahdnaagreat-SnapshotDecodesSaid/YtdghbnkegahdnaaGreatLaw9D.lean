/- The walk of SnapshotDecodes. -/
import Derived.Test.YtdghbnkegahdnaaGreatRef9D
import Derived.Test.YtdghbnkegahdnaaGreatRef9S
import Derived.Test.YtdghbnkegahdnaaGreatAwk9
set_option linter.unusedVariables false
set_option linter.unusedSimpArgs false
set_option maxRecDepth 100000
set_option maxHeartbeats 2000000
namespace Go.Proofs.YtdghbnkegahdnaaGreat.B
open Go Go.RowKit Go.Proofs

theorem ref09_Same_eq (s : Snp) (A : Option Addr) (c : Nat) (B : Option Addr) (d : Nat) (C : Option Addr) (c2 : Nat) (D : Option Addr) (d2 : Nat) (w : World) (hr : Rd eI w A c s.st.l) (ht : Rd eE w B d s.tab) (hr' : Rd eI w C c2 s.st.l) (ht' : Rd eE w D d2 s.tab) (hl : s.st.l.length ≤ 4000000000000) (htl : s.tab.length ≤ 4000000000000) :
    Calls Tryz.prog 14 #[.agg #[.int .i64 s.index, .int .i64 s.st.kind, .slice A s.st.l.length c, .bool s.st.sealed, .int .i64 s.st.to, .slice B s.tab.length d], .agg #[.int .i64 s.index, .int .i64 s.st.kind, .slice C s.st.l.length c2, .bool s.st.sealed, .int .i64 s.st.to, .slice D s.tab.length d2]] w fun e w' => e = .returned (.bool true) ∧ Ex w w' := by
  obtain ⟨ix, ⟨k, l, sd, tt⟩, t⟩ := s
  simp only at hr ht hr' ht' hl htl ⊢
  have hx2 := ((Ex.refl w).alloc (.cells #[.int .i64 ix, .int .i64 k, .slice A l.length c, .bool sd, .int .i64 tt, .slice B t.length d] 39)).alloc (.cells #[.int .i64 ix, .int .i64 k, .slice C l.length c2, .bool sd, .int .i64 tt, .slice D t.length d2] 39)
  have hq5 := (((Ex.refl _).alloc (.cells #[.int .i64 ix, .int .i64 k, .slice C l.length c2, .bool sd, .int .i64 tt, .slice D t.length d2] 39)).both (new_cell (u := .slice B t.length d) w #[.int .i64 ix, .int .i64 k, .slice A l.length c, .bool sd, .int .i64 tt, .slice B t.length d] 39 5 rfl)).1
  have hp5 := (new_cell1 (u := .slice D t.length d2) w (.cells #[.int .i64 ix, .int .i64 k, .slice A l.length c, .bool sd, .int .i64 tt, .slice B t.length d] 39) #[.int .i64 ix, .int .i64 k, .slice C l.length c2, .bool sd, .int .i64 tt, .slice D t.length d2] 39 5 rfl).1
  have hq0 := (((Ex.refl _).alloc (.cells #[.int .i64 ix, .int .i64 k, .slice C l.length c2, .bool sd, .int .i64 tt, .slice D t.length d2] 39)).both (new_cell (u := .int .i64 ix) w #[.int .i64 ix, .int .i64 k, .slice A l.length c, .bool sd, .int .i64 tt, .slice B t.length d] 39 0 rfl)).1
  have hp0 := (new_cell1 (u := .int .i64 ix) w (.cells #[.int .i64 ix, .int .i64 k, .slice A l.length c, .bool sd, .int .i64 tt, .slice B t.length d] 39) #[.int .i64 ix, .int .i64 k, .slice C l.length c2, .bool sd, .int .i64 tt, .slice D t.length d2] 39 0 rfl).1
  have Hq5 := Lib.hid hq5; have Hp5 := Lib.hid hp5; have Hq0 := Lib.hid hq0; have Hp0 := Lib.hid hp0
  clear hq5 hp5 hq0 hp0
  go_enter Tryz.func14, Tryz.ntmps14
  go_wp2_with (go_at_call 41; go_loud (refine (ref04_Same_eq ⟨k, l, sd, tt⟩ A c C c2 _ (hr.ex hx2) (hr'.ex hx2) hl).mono ?_); rintro e w1 ⟨rfl, hx1⟩; have q5 := hx1.cell Hq5.out; have p5 := hx1.cell Hp5.out; have q0 := hx1.cell Hq0.out; have p0 := hx1.cell Hp0.out; have hx21 := hx2.trans hx1)
  have HQ := Lib.hid q5; have HP := Lib.hid p5
  clear q5 p5 q0 p0
  go_loopw [6] (fun i wr => ∃ j : Nat, i = .int .i64 j ∧ j ≤ t.length ∧ Ex w1 wr) (fun i _ => (t.length - intOf i).toNat)
  case atStart => exact ⟨0, rfl, by omega, Ex.refl _⟩
  case round =>
    obtain ⟨j, rfl, hj, hx⟩ := hrel
    have hq := hx.cell HQ.out
    have hp := hx.cell HP.out
    have hxw := hx21.trans hx
    by_cases hlt : j < t.length
    · obtain ⟨ad, rfl, hc⟩ := entAt (ht.ex hxw) hlt
      obtain ⟨ad', rfl, hc'⟩ := entAt (ht'.ex hxw) hlt
      obtain ⟨x, hx0⟩ : ∃ x, x = t[j] := ⟨_, rfl⟩
      rw [← hx0] at hc hc'
      obtain ⟨x0, x1, x2⟩ := x
      obtain ⟨c0, c1, c2⟩ := hc
      obtain ⟨d0, d1, d2⟩ := hc'
      simp only at c0 c1 c2 d0 d1 d2
      have gk5 : (j : Int) < (t.length : Int) := by omega
      have gk6 : (0 : Int) ≤ (j : Int) := by omega
      clear hx0
      have l1 := lat_cell hq
      have l2 := lat_cell hp
      have l3 := lat_cell c0
      have l4 := lat_cell c1
      have l5 := lat_cell c2
      have l6 := lat_cell d0
      have l7 := lat_cell d1
      have l8 := lat_cell d2
      go_wp2_with fail
      refine wp_region_ex (by kernel_rfl) (by kernel_rfl) ?_
      repeat (go_big_quiet_step (fail))
      refine wpQuiet_nil ?_
      rintro _ ⟨y5, rfl⟩
      go_wp2_with fail
      go_roundw
      case rel => exact ⟨j + 1, rfl, by omega, hx.trans y5.ex⟩
      case measure => simp [intOf]; omega
    · go_wp2_with fail
      go_ret
      exact ⟨rfl, hxw⟩
theorem decN_lens (b : List UInt8) : (decN b).1.st.l.length ≤ 4000000000000 ∧ (decN b).1.tab.length ≤ 4000000000000 := by
  by_cases h : (decN b).2 = 0
  · have hd := decN_ok (b := b) (s := (decN b).1) (by rw [← h])
    have hm := (mayN_iff _).1 hd.1
    have h1 := (mayS_all hm.2.2.1).2.1
    have h2 := tabA_len _ (-1) (by omega) hm.2.2.2
    refine ⟨by omega, ?_⟩
    rcases h2 with h2 | h2
    · rw [h2]; simp
    · omega
  · have hz : (decN b).1 = snZ := by
      unfold decN at h ⊢
      split
      · rfl
      · rename_i h1
        rw [if_neg h1] at h
        cases hl : (allF b).1 with
        | nil => rfl
        | cons d r =>
          rw [hl] at h
          simp only at h ⊢
          repeat' split
          all_goals first
            | rfl
            | (exfalso; simp_all)
    rw [hz]; exact ⟨by simp [snZ, stZ], by simp [snZ]⟩
theorem law_decodes (A : Option Addr) (c : Nat) (b : List UInt8) (w : World) (hr : Rd eB w A c b) :
    Calls Tryz.prog 4 #[.slice A b.length c] w fun e w' => e = .returned (.bool true) ∧ Ex w w' := by
  by_cases h5 : 5000 < b.length
  · go_enter Tryz.func4, Tryz.ntmps4
    go_wp2_with (go_at_call 11; refine (law09_awake _).mono ?_; rintro e w1 ⟨rfl, hx1⟩)
    go_ret
    exact ⟨rfl, hx1⟩
  · have hbl : b.length ≤ 1000000000000 := by omega
    have hln := decN_lens b
    obtain ⟨er, her⟩ : ∃ er, er = (decN b).2 := ⟨_, rfl⟩
    obtain ⟨s, hs⟩ : ∃ s, s = (decN b).1 := ⟨_, rfl⟩
    rw [← hs] at hln
    have HEr := Lib.hid her
    have HS := Lib.hid hs
    have HL := Lib.hid hln
    clear her hs hln
    go_enter Tryz.func4, Tryz.ntmps4
    go_wp2_with (first
      | (go_at_call 11; refine (law09_awake _).mono ?_; rintro e w1 ⟨rfl, hx1⟩)
      | (go_at_call 12; go_loud (refine (snap_Decode A c b _ (hr.ex hx1) hbl).mono ?_); rintro e w2 ⟨B, d, C, c2, rfl, hrB, hrC, -, -, hx2⟩; rw [← HEr.out, ← HS.out]; rw [← HS.out] at hrB hrC)
      | (go_at_call 13; go_loud (refine (ref09_Decode A c b _ ((hr.ex hx1).ex (hx2.trans ((Ex.refl _).alloc _))) hbl).mono ?_); rintro e w4 ⟨B4, d4, C4, c4, rfl, hrB4, hrC4, -, -, hx4⟩; rw [← HEr.out, ← HS.out]; rw [← HS.out] at hrB4 hrC4; have hx24 : Ex w2 w4 := ((Ex.refl w2).alloc _).trans hx4; (obtain ⟨q0, -⟩ := hx4.both (new_cell (u := .int .i64 s.index) w2 #[.int .i64 s.index, .int .i64 s.st.kind, .slice B s.st.l.length d, .bool s.st.sealed, .int .i64 s.st.to, .slice C s.tab.length c2] 39 0 rfl)); (obtain ⟨q1, -⟩ := hx4.both (new_cell (u := .int .i64 s.st.kind) w2 #[.int .i64 s.index, .int .i64 s.st.kind, .slice B s.st.l.length d, .bool s.st.sealed, .int .i64 s.st.to, .slice C s.tab.length c2] 39 1 rfl)); (obtain ⟨q2, -⟩ := hx4.both (new_cell (u := .slice B s.st.l.length d) w2 #[.int .i64 s.index, .int .i64 s.st.kind, .slice B s.st.l.length d, .bool s.st.sealed, .int .i64 s.st.to, .slice C s.tab.length c2] 39 2 rfl)); (obtain ⟨q3, -⟩ := hx4.both (new_cell (u := .bool s.st.sealed) w2 #[.int .i64 s.index, .int .i64 s.st.kind, .slice B s.st.l.length d, .bool s.st.sealed, .int .i64 s.st.to, .slice C s.tab.length c2] 39 3 rfl)); (obtain ⟨q4, -⟩ := hx4.both (new_cell (u := .int .i64 s.st.to) w2 #[.int .i64 s.index, .int .i64 s.st.kind, .slice B s.st.l.length d, .bool s.st.sealed, .int .i64 s.st.to, .slice C s.tab.length c2] 39 4 rfl)); (obtain ⟨q5, -⟩ := hx4.both (new_cell (u := .slice C s.tab.length c2) w2 #[.int .i64 s.index, .int .i64 s.st.kind, .slice B s.st.l.length d, .bool s.st.sealed, .int .i64 s.st.to, .slice C s.tab.length c2] 39 5 rfl)); have hw4 : w2.heap.size < w4.heap.size := World.block_lt_of_cell? _ _ q0)
      | (go_at_call 14; go_loud (refine (ref09_Same_eq s B d C c2 B4 d4 C4 c4 _ ((hrB.ex hx24).ex ((Ex.refl _).alloc _)) ((hrC.ex hx24).ex ((Ex.refl _).alloc _)) (hrB4.ex ((Ex.refl _).alloc _)) (hrC4.ex ((Ex.refl _).alloc _)) HL.out.1 HL.out.2).mono ?_); rintro e w5 ⟨rfl, hx5⟩))
    go_ret
    exact ⟨rbool (by simp), (((hx1.trans hx2).trans hx24).alloc _).trans hx5⟩
end Go.Proofs.YtdghbnkegahdnaaGreat.B
