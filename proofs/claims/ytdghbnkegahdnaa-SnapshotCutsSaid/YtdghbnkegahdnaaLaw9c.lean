/- The walk of SnapshotCuts. -/
import Derived.Test.YtdghbnkegahdnaaLaw9b
set_option linter.unusedVariables false
set_option linter.unusedSimpArgs false
set_option maxRecDepth 100000
set_option maxHeartbeats 2000000
namespace Go.Proofs.Ytdghbnkegahdnaa.B
open Go Go.RowKit Go.Proofs

theorem law_cuts_1 (s : Snp) (A : Option Addr) (c : Nat) (B : Option Addr) (d : Nat) (cut : Int) (M : Option Addr) (cm : Nat) (m : List UInt8) (w : World) (hr : Rd eI w A c s.st.l) (ht : Rd eE w B d s.tab)
    (hcase : (Hid (fewN s = false)) ∨ (Hid (fewN s = true) ∧ 100 < m.length) ∨ (Hid (fewN s = true) ∧ ¬ 100 < m.length ∧ Hid (mayN s = false))) : Calls Try.prog 5 #[.agg #[.int .i64 s.index, .int .i64 s.st.kind, .slice A s.st.l.length c, .bool s.st.sealed, .int .i64 s.st.to, .slice B s.tab.length d], .int .i64 cut, .slice M m.length cm] w fun e w' => e = .returned (.bool true) ∧ Ex w w' := by
  have hx0 : Ex w (w.alloc (.cells #[.int .i64 s.index, .int .i64 s.st.kind, .slice A s.st.l.length c, .bool s.st.sealed, .int .i64 s.st.to, .slice B s.tab.length d] 44)) := (Ex.refl w).alloc _
  have HB := Lib.hid (snBox w s A c B d 44)
  rcases hcase with Hf | ⟨Hf, hm⟩ | ⟨Hf, hm, Hm⟩
  · go_enter Try.func5, Try.ntmps5
    go_wp2_with (first
      | (go_at_call 15; go_loud (refine (law09_awake _).mono ?_); rintro e w1 ⟨rfl, hx1⟩; (obtain ⟨q0, q1, q2, q3, q4, q5⟩ := HB.out.ex hx1))
      | (go_at_call 19; go_loud (refine (law09_Few s A c B d _).mono ?_); rintro e w2 ⟨rfl, hx2⟩; rw [Hf.out]; clear q0 q1 q2 q3 q4 q5; have hx12 := hx1.trans hx2; (obtain ⟨q0, q1, q2, q3, q4, q5⟩ := HB.out.ex hx12); have hx02 := hx0.trans hx12))
    go_ret
    exact ⟨rfl, hx02⟩
  · go_enter Try.func5, Try.ntmps5
    go_wp2_with (first
      | (go_at_call 15; go_loud (refine (law09_awake _).mono ?_); rintro e w1 ⟨rfl, hx1⟩; (obtain ⟨q0, q1, q2, q3, q4, q5⟩ := HB.out.ex hx1))
      | (go_at_call 19; go_loud (refine (law09_Few s A c B d _).mono ?_); rintro e w2 ⟨rfl, hx2⟩; rw [Hf.out]; clear q0 q1 q2 q3 q4 q5; have hx12 := hx1.trans hx2; (obtain ⟨q0, q1, q2, q3, q4, q5⟩ := HB.out.ex hx12); have hx02 := hx0.trans hx12))
    go_ret
    exact ⟨rfl, hx02⟩
  · have hsl : s.st.l.length ≤ 4000000000000 := by
      have h := Hf.out
      unfold fewN at h
      rw [Bool.and_eq_true, decide_eq_true_iff] at h
      omega
    go_enter Try.func5, Try.ntmps5
    go_wp2_with (first
        | (go_at_call 15; go_loud (refine (law09_awake _).mono ?_); rintro e w1 ⟨rfl, hx1⟩; (obtain ⟨q0, q1, q2, q3, q4, q5⟩ := HB.out.ex hx1))
        | (go_at_call 19; go_loud (refine (law09_Few s A c B d _).mono ?_); rintro e w2 ⟨rfl, hx2⟩; rw [Hf.out]; clear q0 q1 q2 q3 q4 q5; have hx12 := hx1.trans hx2; (obtain ⟨q0, q1, q2, q3, q4, q5⟩ := HB.out.ex hx12); have hx02 := hx0.trans hx12)
        | (go_at_call 17; go_loud (refine (snap_Encode s A c B d _ (hr.ex hx02) hsl (ht.ex hx02)).mono ?_); rintro e w4 ⟨v4, rfl, ho4, hx4⟩; rw [if_neg (by rw [Hm.out]; decide)] at ho4 ⊢))
    go_ret
    exact ⟨rfl, hx02.trans hx4⟩
theorem law_cuts_2 (s : Snp) (A : Option Addr) (c : Nat) (B : Option Addr) (d : Nat) (cut : Int) (M : Option Addr) (cm : Nat) (m : List UInt8) (w : World) (hr : Rd eI w A c s.st.l) (ht : Rd eE w B d s.tab) (hrm : Rd eB w M cm m)
    (Hf : Hid (fewN s = true)) (hsl : s.st.l.length ≤ 4000000000000) (hm : ¬ 100 < m.length) (Hm : Hid (mayN s = true)) (bs : List UInt8) (Hbs : Hid (bs = encN s)) (hbl : bs.length ≤ 100000) (f7 : Int) (Hf7 : Hid (f7 = (decN (bs ++ m)).2))
    (hfm : (f7 == 0) = ((m.length : Int) == 0)) (hcase : cut < 0 ∨ (0 ≤ cut ∧ (bs.length : Int) ≤ cut)) : Calls Try.prog 5 #[.agg #[.int .i64 s.index, .int .i64 s.st.kind, .slice A s.st.l.length c, .bool s.st.sealed, .int .i64 s.st.to, .slice B s.tab.length d], .int .i64 cut, .slice M m.length cm] w fun e w' => e = .returned (.bool true) ∧ Ex w w' := by
  have hx0 : Ex w (w.alloc (.cells #[.int .i64 s.index, .int .i64 s.st.kind, .slice A s.st.l.length c, .bool s.st.sealed, .int .i64 s.st.to, .slice B s.tab.length d] 44)) := (Ex.refl w).alloc _
  have HB := Lib.hid (snBox w s A c B d 44)
  have hb1 : (([] : List UInt8).length + bs.length) * 1 ≤ 140737488355328 := by simp only [List.length_nil]; omega
  have hb2 : (bs.length + m.length) * 1 ≤ 140737488355328 := by omega
  obtain ⟨bm, hbm⟩ : ∃ bm, bm = bs ++ m := ⟨_, rfl⟩
  have hbl2 : bm.length ≤ 1000000000000 := by rw [hbm, List.length_append]; omega
  rw [← hbm] at Hf7
  have Hbm := Lib.hid hbm
  clear hbm
  rcases hcase with h1 | ⟨h1, h2⟩
  all_goals
    cases h0 : (m.length : Int) == 0
    all_goals
      rw [h0] at hfm
      go_enter Try.func5, Try.ntmps5
      go_wp2_with (first
        | (go_at_call 15; go_loud (refine (law09_awake _).mono ?_); rintro e w1 ⟨rfl, hx1⟩; (obtain ⟨q0, q1, q2, q3, q4, q5⟩ := HB.out.ex hx1))
        | (go_at_call 19; go_loud (refine (law09_Few s A c B d _).mono ?_); rintro e w2 ⟨rfl, hx2⟩; rw [Hf.out]; clear q0 q1 q2 q3 q4 q5; have hx12 := hx1.trans hx2; (obtain ⟨q0, q1, q2, q3, q4, q5⟩ := HB.out.ex hx12); have hx02 := hx0.trans hx12)
        | (go_at_call 17; go_loud (refine (snap_Encode s A c B d _ (hr.ex hx02) hsl (ht.ex hx02)).mono ?_); rintro e w4 ⟨v4, rfl, ho4, hx4⟩; (rw [if_pos Hm.out] at ho4 ⊢; rw [← Hbs.out] at ho4; (obtain ⟨A4, c4, rfl, hr4⟩ := ho4.rd); have hx04 := hx02.trans hx4; have hrm4 := hrm.ex hx04))
        | ((with_reducible refine gate_bi (b := .append) (xs := #[.const (.slice none 0 0), .tmp 38]) rfl ?_); at_builtin; go_loud (refine own_appR eB w4.heap.size rfl (.const (.slice none 0 0)) (.tmp 38) 26 5 (.int .u8 0) 1 rfl Try.underlying26 infoB rfl (by decide) _ [] bs A4 c4 rfl rfl (Own.nil _ _ _ _) hr4 (Nat.le_refl _) hb1 ?_); intro v5 w5 ho5 hg5 ha5; have hx45 : Ex w4 w5 := (Ex.refl w4).grown hg5 (fun k hk => by cases hk); rw [List.nil_append] at ho5)
        | ((with_reducible refine gate_bi (b := .append) (xs := #[.tmp 39, .tmp 40]) rfl ?_); at_builtin; go_loud (refine own_appR eB w4.heap.size rfl (.tmp 39) (.tmp 40) 26 5 (.int .u8 0) 1 rfl Try.underlying26 infoB rfl (by decide) _ bs m M cm rfl rfl ho5 (hrm4.ex hx45) hx45.le hb2 ?_); intro v6 w6 ho6 hg6 ha6; have hx46 : Ex w4 w6 := hx45.grown hg6 (fun k hk => (ho5.lt k hk).1); rw [← Hbm.out] at ho6; (obtain ⟨A6, c6, rfl, hr6⟩ := ho6.rd))
        | (go_at_call 16; go_loud (refine (snap_Decode A6 c6 bm _ hr6 hbl2).mono ?_); rintro e w7 ⟨B7, d7, C7, c7, rfl, -, -, -, -, hx7⟩; rw [← Hf7.out]; have hx47 : Ex w4 w7 := hx46.trans hx7; clear q0 q1 q2 q3 q4 q5))
      go_ret
      exact ⟨rfl, (hx04.trans hx47).alloc _⟩
theorem law_cuts_3 (s : Snp) (A : Option Addr) (c : Nat) (B : Option Addr) (d : Nat) (cut : Int) (M : Option Addr) (cm : Nat) (m : List UInt8) (w : World) (hr : Rd eI w A c s.st.l) (ht : Rd eE w B d s.tab) (hrm : Rd eB w M cm m)
    (Hf : Hid (fewN s = true)) (hsl : s.st.l.length ≤ 4000000000000) (hm : ¬ 100 < m.length) (Hm : Hid (mayN s = true)) (bs : List UInt8) (Hbs : Hid (bs = encN s)) (hbl : bs.length ≤ 100000) (f7 : Int) (Hf7 : Hid (f7 = (decN (bs ++ m)).2))
    (hfm : (f7 == 0) = ((m.length : Int) == 0)) (h1 : 0 ≤ cut) (h2 : cut < (bs.length : Int)) (g9 : Int) (Hg : Hid (g9 = (decN (bs.take cut.toNat)).2)) (hg9 : (g9 != 0) = true) : Calls Try.prog 5 #[.agg #[.int .i64 s.index, .int .i64 s.st.kind, .slice A s.st.l.length c, .bool s.st.sealed, .int .i64 s.st.to, .slice B s.tab.length d], .int .i64 cut, .slice M m.length cm] w fun e w' => e = .returned (.bool true) ∧ Ex w w' := by
  have hx0 : Ex w (w.alloc (.cells #[.int .i64 s.index, .int .i64 s.st.kind, .slice A s.st.l.length c, .bool s.st.sealed, .int .i64 s.st.to, .slice B s.tab.length d] 44)) := (Ex.refl w).alloc _
  have HB := Lib.hid (snBox w s A c B d 44)
  have hb1 : (([] : List UInt8).length + bs.length) * 1 ≤ 140737488355328 := by simp only [List.length_nil]; omega
  have hb2 : (bs.length + m.length) * 1 ≤ 140737488355328 := by omega
  obtain ⟨bm, hbm⟩ : ∃ bm, bm = bs ++ m := ⟨_, rfl⟩
  have hbl2 : bm.length ≤ 1000000000000 := by rw [hbm, List.length_append]; omega
  rw [← hbm] at Hf7
  have Hbm := Lib.hid hbm
  clear hbm
  cases h0 : (m.length : Int) == 0
  all_goals
      rw [h0] at hfm
      go_enter Try.func5, Try.ntmps5
      go_wp2_with (first
        | (go_at_call 15; go_loud (refine (law09_awake _).mono ?_); rintro e w1 ⟨rfl, hx1⟩; (obtain ⟨q0, q1, q2, q3, q4, q5⟩ := HB.out.ex hx1))
        | (go_at_call 19; go_loud (refine (law09_Few s A c B d _).mono ?_); rintro e w2 ⟨rfl, hx2⟩; rw [Hf.out]; clear q0 q1 q2 q3 q4 q5; have hx12 := hx1.trans hx2; (obtain ⟨q0, q1, q2, q3, q4, q5⟩ := HB.out.ex hx12); have hx02 := hx0.trans hx12)
        | (go_at_call 17; go_loud (refine (snap_Encode s A c B d _ (hr.ex hx02) hsl (ht.ex hx02)).mono ?_); rintro e w4 ⟨v4, rfl, ho4, hx4⟩; (rw [if_pos Hm.out] at ho4 ⊢; rw [← Hbs.out] at ho4; (obtain ⟨A4, c4, rfl, hr4⟩ := ho4.rd); have hx04 := hx02.trans hx4; have hrm4 := hrm.ex hx04; (obtain ⟨A8, c8, ys, hys, run8, r8⟩ := cut_to (P := Try.prog) w4 26 5 Try.underlying26 sizeB hr4 cut h1 (Int.le_of_lt h2)); have Hg9 : Hid (g9 = (decN ys).2) := (by rw [Hid, Hg.out, hys.out]); have hyl : ys.length ≤ 1000000000000 := (by rw [hys.out, List.length_take]; omega)))
        | ((with_reducible refine gate_bi (b := .append) (xs := #[.const (.slice none 0 0), .tmp 38]) rfl ?_); at_builtin; go_loud (refine own_appR eB w4.heap.size rfl (.const (.slice none 0 0)) (.tmp 38) 26 5 (.int .u8 0) 1 rfl Try.underlying26 infoB rfl (by decide) _ [] bs A4 c4 rfl rfl (Own.nil _ _ _ _) hr4 (Nat.le_refl _) hb1 ?_); intro v5 w5 ho5 hg5 ha5; have hx45 : Ex w4 w5 := (Ex.refl w4).grown hg5 (fun k hk => by cases hk); rw [List.nil_append] at ho5)
        | ((with_reducible refine gate_bi (b := .append) (xs := #[.tmp 39, .tmp 40]) rfl ?_); at_builtin; go_loud (refine own_appR eB w4.heap.size rfl (.tmp 39) (.tmp 40) 26 5 (.int .u8 0) 1 rfl Try.underlying26 infoB rfl (by decide) _ bs m M cm rfl rfl ho5 (hrm4.ex hx45) hx45.le hb2 ?_); intro v6 w6 ho6 hg6 ha6; have hx46 : Ex w4 w6 := hx45.grown hg6 (fun k hk => (ho5.lt k hk).1); rw [← Hbm.out] at ho6; (obtain ⟨A6, c6, rfl, hr6⟩ := ho6.rd))
        | (go_at_call_of 16 A8; go_loud (refine (snap_Decode A8 c8 ys _ ((r8.ex hx47).ex ((Ex.refl _).alloc _)) hyl).mono ?_); rintro e w9 ⟨B9, d9, C9, c9, rfl, -, -, -, -, hx9⟩; rw [← Hg9.out])
        | (go_at_call 16; go_loud (refine (snap_Decode A6 c6 bm _ hr6 hbl2).mono ?_); rintro e w7 ⟨B7, d7, C7, c7, rfl, -, -, -, -, hx7⟩; rw [← Hf7.out]; have hx47 : Ex w4 w7 := hx46.trans hx7; clear q0 q1 q2 q3 q4 q5))
      go_ret
      exact ⟨rfl, ((((hx04.trans hx47).alloc _)).trans hx9).alloc _⟩
theorem law_cuts (s : Snp) (A : Option Addr) (c : Nat) (B : Option Addr) (d : Nat) (cut : Int) (M : Option Addr) (cm : Nat) (m : List UInt8) (w : World) (hr : Rd eI w A c s.st.l) (ht : Rd eE w B d s.tab) (hrm : Rd eB w M cm m) : Calls Try.prog 5 #[.agg #[.int .i64 s.index, .int .i64 s.st.kind, .slice A s.st.l.length c, .bool s.st.sealed, .int .i64 s.st.to, .slice B s.tab.length d], .int .i64 cut, .slice M m.length cm] w fun e w' => e = .returned (.bool true) ∧ Ex w w' := by
  cases hf : fewN s with
  | false => exact law_cuts_1 s A c B d cut M cm m w hr ht (.inl hf)
  | true =>
    by_cases hm : 100 < m.length
    · exact law_cuts_1 s A c B d cut M cm m w hr ht (.inr (.inl ⟨hf, hm⟩))
    · cases hy : mayN s with
      | false => exact law_cuts_1 s A c B d cut M cm m w hr ht (.inr (.inr ⟨hf, hm, hy⟩))
      | true =>
        have hsl : s.st.l.length ≤ 4000000000000 := by
          unfold fewN at hf
          rw [Bool.and_eq_true, decide_eq_true_iff] at hf
          omega
        have hle := encN_le s hy
        have hfm : ((decN (encN s ++ m)).2 == 0) = ((m.length : Int) == 0) := by
          by_cases h0 : m = []
          · subst h0
            rw [List.append_nil, decN_encN s hy]; rfl
          · have h1 := decN_more s hy m h0
            have h2 := List.length_pos_iff.2 h0
            rw [show ((decN (encN s ++ m)).2 == 0) = false from by rw [beq_eq_false_iff_ne]; exact h1]
            symm
            rw [beq_eq_false_iff_ne]; omega
        by_cases h1 : cut < 0
        · exact law_cuts_2 s A c B d cut M cm m w hr ht hrm hf hsl hm hy _ rfl hle _ rfl hfm (.inl h1)
        · by_cases h2 : ((encN s).length : Int) ≤ cut
          · exact law_cuts_2 s A c B d cut M cm m w hr ht hrm hf hsl hm hy _ rfl hle _ rfl hfm (.inr ⟨by omega, h2⟩)
          · exact law_cuts_3 s A c B d cut M cm m w hr ht hrm hf hsl hm hy _ rfl hle _ rfl hfm (by omega) (by omega) _ rfl (by rw [bne_iff_ne]; exact decN_cut s hy _ (by omega))
end Go.Proofs.Ytdghbnkegahdnaa.B
