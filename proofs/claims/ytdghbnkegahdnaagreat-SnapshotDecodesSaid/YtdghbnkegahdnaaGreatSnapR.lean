/- The walks of package snapshot, third part: read. -/
import Derived.Test.YtdghbnkegahdnaaGreatSnapU
set_option linter.unusedVariables false
set_option linter.unusedSimpArgs false
set_option maxRecDepth 100000
set_option maxHeartbeats 2000000
namespace Go.Proofs.YtdghbnkegahdnaaGreat.B
open Go Go.RowKit Go.Proofs

/-- What read says of its result. -/
def ReadR (b : List UInt8) (w : World) (e : Ending) (w' : World) : Prop := ∃ (ix kind : Int) (B : Option Addr) (nl d : Nat) (sd : Bool) (tt : Int) (C : Option Addr) (nt c2 : Nat),
  e = .returned (.tuple #[.agg #[.int .i64 ix, .int .i64 kind, .slice B nl d, .bool sd, .int .i64 tt, .slice C nt c2], .int .i64 (readN b).2]) ∧
  Hid ((readN b).2 = 0 → kind = (readN b).1.st.kind ∧ nl = (readN b).1.st.l.length ∧ sd = (readN b).1.st.sealed ∧ tt = (readN b).1.st.to ∧ nt = (readN b).1.tab.length ∧ Rd eI w' B d (readN b).1.st.l ∧ Rd eE w' C c2 (readN b).1.tab ∧ (∀ a, B = some a → w.heap.size ≤ a.block) ∧ (∀ a, C = some a → w.heap.size ≤ a.block)) ∧ Ex w w'
theorem snap_read_1 (A : Option Addr) (c : Nat) (b : List UInt8) (w : World) (hr : Rd eB w A c b) (hl : b.length ≤ 1000000000000) (n k : Nat) (HN : Hid (n = (get b).1)) (HK : Hid (k = (get b).2)) (hkl : k ≤ b.length)
    (hcase : ((k : Int) == 0) = true ∨ (((k : Int) == 0) = false ∧ (b.length : Int) - (k : Int) < (n : Int))) :
    Calls Tryz.prog 34 #[.slice A b.length c] w (ReadR b w) := by
  have hs : Hid ((readN b).2 = 3) := by
    have h1 := HN.out; have h2 := HK.out
    unfold readN Hid
    rw [if_pos (by rw [← h1, ← h2]; rcases hcase with h | ⟨_, h⟩; left; rw [beq_iff_eq] at h; omega; right; omega)]
  have gw : wrap64 ((b.length : Int) - (k : Int)) = (b.length : Int) - (k : Int) := by unfold wrap64; omega
  rcases hcase with h1 | ⟨h1, h2⟩
  all_goals
    go_enter Tryz.func34, Tryz.ntmps34
    go_wp2_with (go_at_call 64; refine (num_Get A c b _ (hr.ex (by repeat' first | exact Ex.refl _ | refine Ex.alloc ?_ _ | refine Ex.set ?_ (Nat.le_refl _) _))).mono ?_; rintro e w1 ⟨rfl, rfl⟩; rw [← HN.out, ← HK.out])
    refine bodyPost_ret (v := .tuple #[.agg #[.int .i64 0, .int .i64 0, .slice none 0 0, .bool false, .int .i64 0, .slice none 0 0], .int .i64 3]) (by simp [results, Tryz.results34, go_sem]) rfl ⟨0, 0, none, 0, 0, false, 0, none, 0, 0, by rw [hs.out], (fun h => by rw [hs.out] at h; cases h), (by repeat' first | exact Ex.refl _ | refine Ex.alloc ?_ _ | refine Ex.set ?_ (Nat.le_refl _) _)⟩
theorem snap_read_2 (A : Option Addr) (c : Nat) (b : List UInt8) (w : World) (hr : Rd eB w A c b) (hl : b.length ≤ 1000000000000) (n k : Nat) (HN : Hid (n = (get b).1)) (HK : Hid (k = (get b).2)) (hkl : k + n ≤ b.length)
    (h1 : ((k : Int) == 0) = false) (hnlt : n < 4611686018427387904) (y : List UInt8) (HY : Hid (y = (b.take (k + n)).drop k)) (er : Int) (HE : Hid (er = (decS y).2)) (v : List UInt8) (HV : Hid (v = b.drop (k + n)))
    (m j : Nat) (HM : Hid (m = (get v).1)) (HJ : Hid (j = (get v).2)) (hjl : j ≤ v.length)
    (hcase : ((er == 3) = true ∧ Hid ((readN b).2 = 3)) ∨ ((er == 3) = false ∧ ((j : Int) == 0) = true ∧ Hid ((readN b).2 = 3)) ∨ ((er == 3) = false ∧ ((j : Int) == 0) = false ∧ v.length < m ∧ Hid ((readN b).2 = 3))) :
    Calls Tryz.prog 34 #[.slice A b.length c] w (ReadR b w) := by
  have gw : wrap64 ((b.length : Int) - (k : Int)) = (b.length : Int) - (k : Int) := by unfold wrap64; omega
  have gs : wrap64 ((k : Int) + (n : Int)) = (k : Int) + (n : Int) := by unfold wrap64; omega
  have h2 : ¬ (b.length : Int) - (k : Int) < (n : Int) := by omega
  obtain ⟨A0, c0, y0, hy0, run0, r0⟩ := cut_mid (P := Tryz.prog) w 22 5 Tryz.underlying22 sizeB hr (k : Int) ((k : Int) + (n : Int)) (by omega) (by omega) (by omega)
  obtain ⟨A1, c1, v0, hv0, run1, r1⟩ := cut_from (P := Tryz.prog) w 22 5 Tryz.underlying22 sizeB hr ((k : Int) + (n : Int)) (by omega) (by omega)
  obtain rfl : y0 = y := by rw [hy0.out, HY.out]; congr 1
  obtain rfl : v0 = v := by rw [hv0.out, HV.out]; congr 1
  have hyl : y0.length ≤ 70000000000000 := by have h := HY.out; rw [h, List.length_drop, List.length_take]; omega
  clear hy0 hv0
  rcases hcase with ⟨h3, hs⟩ | ⟨h3, h4, hs⟩ | ⟨h3, h4, h5, hs⟩
  all_goals
    go_enter Tryz.func34, Tryz.ntmps34
    go_wp2_with (first
      | (go_at_call 68; refine (codec_DecodeState A0 c0 y0 _ (r0.ex (by repeat' first | exact Ex.refl _ | refine Ex.alloc ?_ _ | refine Ex.set ?_ (Nat.le_refl _) _)) hyl).mono ?_; rintro e w1 ⟨B, d, rfl, hB, hBn, hx1⟩; rw [← HE.out]; (obtain ⟨q0, f0⟩ := hx1.both (new_cell w _ _ 0 rfl)); (obtain ⟨q1, f1⟩ := hx1.both (new_cell w _ _ 1 rfl)); (obtain ⟨q2, f2⟩ := hx1.both (new_cell w _ _ 2 rfl)); (obtain ⟨q3, f3⟩ := hx1.both (new_cell w _ _ 3 rfl)); (obtain ⟨q4, f4⟩ := hx1.both (new_cell w _ _ 4 rfl)); (obtain ⟨q5, f5⟩ := hx1.both (new_cell w _ _ 5 rfl)); have hw1 : w.heap.size < w1.heap.size := World.block_lt_of_cell? w1 _ q0; have hx01 : Ex w w1 := ((Ex.refl w).alloc _).trans hx1)
      | (go_at_call_of 64 A1; refine (num_Get A1 c1 v0 _ (r1.ex (by with_reducible (repeat' first | exact hx01 | refine Ex.alloc ?_ _ | refine Ex.set ?_ (Nat.le_refl _) _)))).mono ?_; rintro e w2 ⟨rfl, rfl⟩; rw [← HM.out, ← HJ.out])
      | (go_at_call 64; refine (num_Get A c b _ (hr.ex (by repeat' first | exact Ex.refl _ | refine Ex.alloc ?_ _ | refine Ex.set ?_ (Nat.le_refl _) _))).mono ?_; rintro e w1 ⟨rfl, rfl⟩; rw [← HN.out, ← HK.out]))
  · refine bodyPost_ret (v := .tuple #[.agg #[.int .i64 0, .int .i64 0, .slice none 0 0, .bool false, .int .i64 0, .slice none 0 0], .int .i64 er]) (by simp [results, Tryz.results34, go_sem, q0, q1, q2, q3, q4, q5, hw1]) rfl ⟨0, 0, none, 0, 0, false, 0, none, 0, 0, by rw [hs.out]; rw [eq_of_beq h3], (fun h => by rw [hs.out] at h; cases h), (by with_reducible (repeat' first | exact hx01 | refine Ex.alloc ?_ _ | refine Ex.set ?_ (Nat.le_refl _) _))⟩
  · refine bodyPost_ret (v := .tuple #[.agg #[.int .i64 0, .int .i64 0, .slice none 0 0, .bool false, .int .i64 0, .slice none 0 0], .int .i64 3]) (by simp [results, Tryz.results34, go_sem, q0, q1, q2, q3, q4, q5, hw1]) rfl ⟨0, 0, none, 0, 0, false, 0, none, 0, 0, by rw [hs.out], (fun h => by rw [hs.out] at h; cases h), (by with_reducible (repeat' first | exact hx01 | refine Ex.alloc ?_ _ | refine Ex.set ?_ (Nat.le_refl _) _))⟩
  · refine bodyPost_ret (v := .tuple #[.agg #[.int .i64 0, .int .i64 0, .slice none 0 0, .bool false, .int .i64 0, .slice none 0 0], .int .i64 3]) (by simp [results, Tryz.results34, go_sem, q0, q1, q2, q3, q4, q5, hw1]) rfl ⟨0, 0, none, 0, 0, false, 0, none, 0, 0, by rw [hs.out], (fun h => by rw [hs.out] at h; cases h), (by with_reducible (repeat' first | exact hx01 | refine Ex.alloc ?_ _ | refine Ex.set ?_ (Nat.le_refl _) _))⟩
end Go.Proofs.YtdghbnkegahdnaaGreat.B
