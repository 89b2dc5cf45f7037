/- The walks of SnapshotBack and SnapshotCuts. -/
import Derived.Test.YtdghbnkegahdnaaLaw9
set_option linter.unusedVariables false
set_option linter.unusedSimpArgs false
set_option maxRecDepth 100000
set_option maxHeartbeats 2000000
namespace Go.Proofs.Ytdghbnkegahdnaa.B
open Go Go.RowKit Go.Proofs

theorem chunks_len (w : List UInt8) : ((chunks w).flatMap encF).length ≤ 15 * w.length := by
  by_cases h : w = []
  · subst h; rw [chunks_nil]; simp
  · have hp := List.length_pos_iff.2 h
    have ih := chunks_len (w.drop 64)
    have h1 := encF_len (w.take 64)
    rw [chunks_cons h, List.flatMap_cons, List.length_append]
    rw [List.length_drop] at ih
    rw [List.length_take] at h1
    omega
  termination_by w.length
  decreasing_by rw [List.length_drop]; omega
theorem encN_le (s : Snp) (h : mayN s = true) : (encN s).length ≤ 100000 := by
  have h1 := chunks_len (wholeN s)
  have h2 := wholeN_len s h
  have h3 := encF_len (manB s.index (wholeN s))
  have h4 := manB_len s.index (wholeN s)
  rw [encN, List.length_append]
  omega
def fewN (s : Snp) : Bool := decide (s.st.l.length ≤ 300) && decide (s.tab.length ≤ 100)
theorem law09_Few (s : Snp) (A : Option Addr) (c : Nat) (B : Option Addr) (d : Nat) (w : World) :
    Calls Try.prog 19 #[.agg #[.int .i64 s.index, .int .i64 s.st.kind, .slice A s.st.l.length c, .bool s.st.sealed, .int .i64 s.st.to, .slice B s.tab.length d]] w fun e w' => e = .returned (.bool (fewN s)) ∧ Ex w w' := by
  obtain ⟨ix, ⟨k, l, sd, tt⟩, t⟩ := s
  simp only
  have hx1 := (Ex.refl w).alloc (.cells #[.int .i64 ix, .int .i64 k, .slice A l.length c, .bool sd, .int .i64 tt, .slice B t.length d] 44)
  have hs : Hid (fewN ⟨ix, ⟨k, l, sd, tt⟩, t⟩ = (decide (l.length ≤ 300) && decide (t.length ≤ 100))) := rfl
  cases h1 : decide (l.length ≤ 300) with
  | false =>
    have H1 := Lib.hid h1
    clear h1
    go_enter Try.func19, Try.ntmps19
    go_wp2_with (go_at_call 45; go_loud (refine (law04_Few ⟨k, l, sd, tt⟩ A c _).mono ?_); rintro e w1 ⟨rfl, hx2⟩; rw [H1.out])
    go_ret
    exact ⟨rbool (by rw [hs.out, H1.out]; rfl), hx1.trans hx2⟩
  | true =>
    have H1 := Lib.hid h1
    clear h1
    go_enter Try.func19, Try.ntmps19
    go_wp2_with (go_at_call 45; go_loud (refine (law04_Few ⟨k, l, sd, tt⟩ A c _).mono ?_); rintro e w1 ⟨rfl, hx2⟩; rw [H1.out]; (obtain ⟨q5, -⟩ := hx2.both (new_cell (u := .slice B t.length d) w #[.int .i64 ix, .int .i64 k, .slice A l.length c, .bool sd, .int .i64 tt, .slice B t.length d] 44 5 rfl)))
    go_ret
    exact ⟨rbool (by rw [hs.out, H1.out, Bool.true_and]; exact decide_eq_decide.2 (by omega)), hx1.trans hx2⟩
/-- A snapshot's cells that have been boxed. -/
def SnBox (w : World) (b : Nat) (s : Snp) (A : Option Addr) (c : Nat) (B : Option Addr) (d : Nat) : Prop := w.cell? ⟨b, 0, none⟩ = some (.int .i64 s.index) ∧ w.cell? ⟨b, 1, none⟩ = some (.int .i64 s.st.kind) ∧ w.cell? ⟨b, 2, none⟩ = some (.slice A s.st.l.length c) ∧ w.cell? ⟨b, 3, none⟩ = some (.bool s.st.sealed) ∧ w.cell? ⟨b, 4, none⟩ = some (.int .i64 s.st.to) ∧ w.cell? ⟨b, 5, none⟩ = some (.slice B s.tab.length d)
theorem SnBox.ex {w w' : World} {b : Nat} {s : Snp} {A : Option Addr} {c : Nat} {B : Option Addr} {d : Nat} (h : SnBox w b s A c B d) (hx : Ex w w') : SnBox w' b s A c B d := ⟨hx.cell h.1, hx.cell h.2.1, hx.cell h.2.2.1, hx.cell h.2.2.2.1, hx.cell h.2.2.2.2.1, hx.cell h.2.2.2.2.2⟩
theorem snBox (w : World) (s : Snp) (A : Option Addr) (c : Nat) (B : Option Addr) (d : Nat) (t : TypeId) : SnBox (w.alloc (.cells #[.int .i64 s.index, .int .i64 s.st.kind, .slice A s.st.l.length c, .bool s.st.sealed, .int .i64 s.st.to, .slice B s.tab.length d] t)) w.heap.size s A c B d :=
  ⟨(new_cell w _ _ 0 rfl).1, (new_cell w _ _ 1 rfl).1, (new_cell w _ _ 2 rfl).1, (new_cell w _ _ 3 rfl).1, (new_cell w _ _ 4 rfl).1, (new_cell w _ _ 5 rfl).1⟩
theorem law_back (s : Snp) (A : Option Addr) (c : Nat) (B : Option Addr) (d : Nat) (w : World) (hr : Rd eI w A c s.st.l) (ht : Rd eE w B d s.tab) :
    Calls Try.prog 6 #[.agg #[.int .i64 s.index, .int .i64 s.st.kind, .slice A s.st.l.length c, .bool s.st.sealed, .int .i64 s.st.to, .slice B s.tab.length d]] w fun e w' => e = .returned (.bool true) ∧ Ex w w' := by
  have hx0 : Ex w (w.alloc (.cells #[.int .i64 s.index, .int .i64 s.st.kind, .slice A s.st.l.length c, .bool s.st.sealed, .int .i64 s.st.to, .slice B s.tab.length d] 44)) := (Ex.refl w).alloc _
  have HB := Lib.hid (snBox w s A c B d 44)
  cases hf : fewN s with
  | false =>
    have Hf := Lib.hid hf
    clear hf
    go_enter Try.func6, Try.ntmps6
    go_wp2_with (first
      | (go_at_call 15; go_loud (refine (law09_awake _).mono ?_); rintro e w1 ⟨rfl, hx1⟩; (obtain ⟨q0, q1, q2, q3, q4, q5⟩ := HB.out.ex hx1))
      | (go_at_call 19; go_loud (refine (law09_Few s A c B d _).mono ?_); rintro e w2 ⟨rfl, hx2⟩; rw [Hf.out]))
    go_ret
    exact ⟨rfl, (hx0.trans hx1).trans hx2⟩
  | true =>
    have Hf := Lib.hid hf
    have hsl : s.st.l.length ≤ 4000000000000 := by
      unfold fewN at hf
      rw [Bool.and_eq_true, decide_eq_true_iff] at hf
      omega
    clear hf
    cases hm : mayN s with
    | false =>
      have Hm := Lib.hid hm
      clear hm
      go_enter Try.func6, Try.ntmps6
      go_wp2_with (first
        | (go_at_call 15; go_loud (refine (law09_awake _).mono ?_); rintro e w1 ⟨rfl, hx1⟩; (obtain ⟨q0, q1, q2, q3, q4, q5⟩ := HB.out.ex hx1))
        | (go_at_call 19; go_loud (refine (law09_Few s A c B d _).mono ?_); rintro e w2 ⟨rfl, hx2⟩; rw [Hf.out]; clear q0 q1 q2 q3 q4 q5; have hx12 := hx1.trans hx2; (obtain ⟨q0, q1, q2, q3, q4, q5⟩ := HB.out.ex hx12); have hx02 := hx0.trans hx12)
        | (go_at_call 17; go_loud (refine (snap_Encode s A c B d _ (hr.ex hx02) hsl (ht.ex hx02)).mono ?_); rintro e w4 ⟨v4, rfl, ho4, hx4⟩; rw [if_neg (by rw [Hm.out]; decide)] at ho4 ⊢; (obtain ⟨A4, c4, rfl, hr4⟩ := ho4.rd)))
      go_ret
      exact ⟨rfl, hx02.trans hx4⟩
    | true =>
      have hd := decN_encN s hm
      have hle := encN_le s hm
      obtain ⟨bs, hbs⟩ : ∃ bs, bs = encN s := ⟨_, rfl⟩
      rw [← hbs] at hd hle
      have hbl : bs.length ≤ 1000000000000 := by omega
      have Hm := Lib.hid hm
      have Hd := Lib.hid hd
      have Hbs := Lib.hid hbs
      clear hm hd hbs
      go_enter Try.func6, Try.ntmps6
      go_wp2_with (first
        | (go_at_call 15; go_loud (refine (law09_awake _).mono ?_); rintro e w1 ⟨rfl, hx1⟩; (obtain ⟨q0, q1, q2, q3, q4, q5⟩ := HB.out.ex hx1))
        | (go_at_call 19; go_loud (refine (law09_Few s A c B d _).mono ?_); rintro e w2 ⟨rfl, hx2⟩; rw [Hf.out]; clear q0 q1 q2 q3 q4 q5; have hx12 := hx1.trans hx2; (obtain ⟨q0, q1, q2, q3, q4, q5⟩ := HB.out.ex hx12); have hx02 := hx0.trans hx12)
        | (go_at_call 17; go_loud (refine (snap_Encode s A c B d _ (hr.ex hx02) hsl (ht.ex hx02)).mono ?_); rintro e w4 ⟨v4, rfl, ho4, hx4⟩; rw [if_pos Hm.out] at ho4 ⊢; rw [← Hbs.out] at ho4; (obtain ⟨A4, c4, rfl, hr4⟩ := ho4.rd))
        | (go_at_call 16; go_loud (refine (snap_Decode A4 c4 bs _ hr4 hbl).mono ?_); rintro e w5 ⟨B5, d5, C5, c5, rfl, hrB, hrC, -, -, hx5⟩; rw [Hd.out] at hrB hrC ⊢; have hx15 := (hx12.trans hx4).trans hx5; clear q0 q1 q2 q3 q4 q5; (obtain ⟨q0, q1, q2, q3, q4, q5⟩ := HB.out.ex hx15); have hx05 := hx0.trans hx15; have hlt5 : w.heap.size < w5.heap.size := World.block_lt_of_cell? _ _ q0)
        | (go_at_call 20; go_loud (refine (snap_Same_eq s s rfl B5 d5 C5 c5 A c B d _ (hrB.ex ((Ex.refl _).alloc _)) (hrC.ex ((Ex.refl _).alloc _)) ((hr.ex hx05).ex ((Ex.refl _).alloc _)) ((ht.ex hx05).ex ((Ex.refl _).alloc _)) hsl).mono ?_); rintro e w6 ⟨rfl, hx6⟩))
      go_ret
      exact ⟨rfl, (hx05.alloc _).trans hx6⟩
end Go.Proofs.Ytdghbnkegahdnaa.B
