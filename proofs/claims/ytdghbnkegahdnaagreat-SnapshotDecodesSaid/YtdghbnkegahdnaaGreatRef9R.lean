/- The walks of the references of snapshots: read. -/
import Derived.Test.YtdghbnkegahdnaaGreatRef9T
import Derived.Test.YtdghbnkegahdnaaGreatRef5W
set_option linter.unusedVariables false
set_option linter.unusedSimpArgs false
set_option maxRecDepth 100000
set_option maxHeartbeats 2000000
namespace Go.Proofs.YtdghbnkegahdnaaGreat.B
open Go Go.RowKit Go.Proofs

/-- readN by the entries that the rest is. -/
theorem readN_tab (b : List UInt8) (h : ¬ ((get b).2 = 0 ∨ b.length < (get b).2 + (get b).1)) :
    readN b = if (decS ((b.take ((get b).2 + (get b).1)).drop (get b).2)).2 = 3 then (snZ, 3) else
      match tabR (b.drop ((get b).2 + (get b).1)) with
      | none => (snZ, 3)
      | some t => (⟨0, (decS ((b.take ((get b).2 + (get b).1)).drop (get b).2)).1, t⟩, (decS ((b.take ((get b).2 + (get b).1)).drop (get b).2)).2) := by
  unfold readN tabR
  simp only
  rw [if_neg h]
  split
  · rfl
  · split
    · rfl
    · cases getEs (get (b.drop ((get b).2 + (get b).1))).1 ((b.drop ((get b).2 + (get b).1)).drop (get (b.drop ((get b).2 + (get b).1))).2) with
      | none => rfl
      | some p =>
        simp only [endN]
        split
        · rfl
        · rfl
/-- What the reference's read gives. -/
def RdR (b : List UInt8) (w : World) (e : Ending) (w' : World) : Prop := ∃ (B : Option Addr) (d : Nat) (C : Option Addr) (c2 : Nat),
  e = .returned (.tuple #[.agg #[.int .i64 0, .int .i64 (readN b).1.st.kind, .slice B (readN b).1.st.l.length d, .bool (readN b).1.st.sealed, .int .i64 (readN b).1.st.to, .slice C (readN b).1.tab.length c2], .int .i64 (readN b).2]) ∧
  Rd eI w' B d (readN b).1.st.l ∧ Rd eE w' C c2 (readN b).1.tab ∧ (∀ a, B = some a → w.heap.size ≤ a.block) ∧ (∀ a, C = some a → w.heap.size ≤ a.block) ∧ Ex w w'
theorem RdR.none {b : List UInt8} {w w' : World} {er : Int} (h : readN b = (snZ, er)) (hx : Ex w w') :
    RdR b w (.returned (.tuple #[.agg #[.int .i64 0, .int .i64 0, .slice .none 0 0, .bool false, .int .i64 0, .slice .none 0 0], .int .i64 er])) w' :=
  ⟨.none, 0, .none, 0, by rw [h]; rfl, by rw [h]; exact Rd.nil _ _ _ _, by rw [h]; exact Rd.nil _ _ _ _, (fun a h => by cases h), (fun a h => by cases h), hx⟩
theorem ref09_read (A : Option Addr) (c : Nat) (b : List UInt8) (w : World) (hr : Rd eB w A c b) (hl : b.length ≤ 1000000000000) :
    Calls Tryz.prog 39 #[.slice A b.length c] w (RdR b w) := by
  obtain ⟨n, hn⟩ : ∃ n, n = (get b).1 := ⟨_, rfl⟩
  obtain ⟨k, hk⟩ : ∃ k, k = (get b).2 := ⟨_, rfl⟩
  have hkl : k ≤ b.length := by rw [hk]; exact get_le b
  have hnlt : n < 4611686018427387904 := by rw [hn]; exact get_lt b
  have hx0 : Ex w (w.alloc snC) := (Ex.refl w).alloc _
  have HZ := Lib.hid (sn0_new w)
  have hl7 : b.length ≤ 70000000000000 := by omega
  by_cases h1 : k = 0 ∨ b.length < k + n
  · have hs : Hid (readN b = (snZ, 3)) := by
      unfold readN Hid
      simp only
      rw [if_pos (by rw [← hk, ← hn]; exact h1)]
    have HN := Lib.hid hn; have HK := Lib.hid hk
    clear hn hk
    obtain ⟨⟨q0, f0⟩, ⟨q1, f1⟩, ⟨q2, f2⟩, ⟨q3, f3⟩, ⟨q4, f4⟩, ⟨q5, f5⟩⟩ := HZ.out
    have hcase : ((k : Int) == 0) = true ∨ (((k : Int) == 0) = false ∧ (b.length : Int) - (k : Int) < (n : Int)) := by
      by_cases h0 : k = 0
      · exact .inl (by rw [h0]; rfl)
      · exact .inr ⟨by rw [beq_eq_false_iff_ne]; omega, by omega⟩
    clear h1
    rcases hcase with k1 | ⟨k1, k2⟩
    all_goals
      go_enter Tryz.func39, Tryz.ntmps39
      go_wp2_with (go_at_call 72; go_loud (refine (ref01_Get A c b _ (hr.ex hx0)).mono ?_); rintro e w1 ⟨rfl, rfl⟩; rw [← HN.out, ← HK.out])
      refine bodyPost_ret (v := .tuple #[.agg #[.int .i64 0, .int .i64 0, .slice none 0 0, .bool false, .int .i64 0, .slice none 0 0], .int .i64 3]) (by simp [results, Tryz.results39, go_sem]) rfl (RdR.none hs.out (by with_reducible (repeat' first | exact hx0 | refine Ex.alloc ?_ _ | refine Ex.set ?_ (Nat.le_refl _) _)))
  · have h1' : k ≠ 0 ∧ k + n ≤ b.length := by omega
    have hspec := readN_tab b (by rw [← hk, ← hn]; exact h1)
    rw [← hk, ← hn] at hspec
    clear h1
    obtain ⟨h0, hkn⟩ := h1'
    have k1 : ((k : Int) == 0) = false := by rw [beq_eq_false_iff_ne]; omega
    have k2 : ¬ (b.length : Int) - (k : Int) < (n : Int) := by omega
    obtain ⟨A1, c1, y, hy, run1, r1⟩ := cut_mid (P := Tryz.prog) w 22 5 Tryz.underlying22 sizeB hr (k : Int) ((k : Int) + (n : Int)) (by omega) (by omega) (by omega)
    obtain ⟨A2, c2, v, hv, run2, r2⟩ := cut_from (P := Tryz.prog) w 22 5 Tryz.underlying22 sizeB hr ((k : Int) + (n : Int)) (by omega) (by omega)
    have e1 : y = (b.take (k + n)).drop k := by rw [hy.out]; congr 1
    have e2 : v = b.drop (k + n) := by rw [hv.out]; congr 1
    have hyl : y.length ≤ 70000000000000 := by rw [e1, List.length_drop, List.length_take]; omega
    have hvl : v.length ≤ 1000000000000 := by rw [e2, List.length_drop]; omega
    rw [← e1, ← e2] at hspec
    have HN := Lib.hid hn; have HK := Lib.hid hk
    clear hn hk e1 e2 hy hv
    obtain ⟨er, her⟩ : ∃ er, er = (decS y).2 := ⟨_, rfl⟩
    obtain ⟨st, hst⟩ : ∃ st, st = (decS y).1 := ⟨_, rfl⟩
    rw [← her, ← hst] at hspec
    have HEr := Lib.hid her; have HSt := Lib.hid hst
    clear her hst
    have HSp := Lib.hid hspec
    clear hspec
    have ARMS : True := trivial
    by_cases h3 : er = 3
    · have k3 : (er == 3) = true := by rw [h3]; rfl
      have hs : Hid (readN b = (snZ, 3)) := by rw [Hid, HSp.out, if_pos h3]
      clear h3
      go_enter Tryz.func39, Tryz.ntmps39
      go_wp2_with (first
        | (go_at_call 72; go_loud (refine (ref01_Get A c b _ (hr.ex hx0)).mono ?_); rintro e w1 ⟨rfl, rfl⟩; rw [← HN.out, ← HK.out])
        | (go_at_call 75; go_loud (refine (ref05_DecodeState A1 c1 y _ (r1.ex hx0) hyl).mono ?_); rintro e w2 ⟨B, d, rfl, hB, hBn, hx2⟩; rw [← HEr.out, ← HSt.out]; rw [← HSt.out] at hB; have hx02 := hx0.trans hx2)
        | (go_at_call 76; go_loud (refine (ref09_table A2 c2 v _ (r2.ex (hx02.alloc _)) hvl).mono ?_); rintro e w3 ⟨v3, ts, ok, rfl, ho3, htr, hx3⟩; (obtain ⟨A3, c3, rfl, hr3⟩ := ho3.rd); have hx23 := ((Ex.refl w2).alloc _).trans hx3; have hx03 := hx02.trans hx23; (obtain ⟨⟨q0, f0⟩, ⟨q1, f1⟩, ⟨q2, f2⟩, ⟨q3, f3⟩, ⟨q4, f4⟩, ⟨q5, f5⟩⟩ := (HZ.out.ex hx2).ex hx23); have hw3 : w.heap.size < w3.heap.size := World.block_lt_of_cell? _ _ q0))
      refine bodyPost_ret (v := .tuple #[.agg #[.int .i64 0, .int .i64 0, .slice none 0 0, .bool false, .int .i64 0, .slice none 0 0], .int .i64 3]) (by simp [results, Tryz.results39, go_sem, q0, q1, q2, q3, q4, q5, hw3]) rfl (RdR.none hs.out (by with_reducible (repeat' first | exact hx03 | refine Ex.alloc ?_ _ | refine Ex.set ?_ (Nat.le_refl _) _)))
    · have k3 : (er == 3) = false := by rw [beq_eq_false_iff_ne]; exact h3
      have HSp2 : Hid (readN b = match tabR v with | none => (snZ, 3) | some t => (⟨0, st, t⟩, er)) := by rw [Hid, HSp.out, if_neg h3]
      clear h3
      cases ht : tabR v with
      | none =>
        have hs : Hid (readN b = (snZ, 3)) := by rw [Hid, HSp2.out, ht]
        have Ht := Lib.hid ht
        clear ht
        go_enter Tryz.func39, Tryz.ntmps39
        go_wp2_with (first
          | (go_at_call 72; go_loud (refine (ref01_Get A c b _ (hr.ex hx0)).mono ?_); rintro e w1 ⟨rfl, rfl⟩; rw [← HN.out, ← HK.out])
          | (go_at_call 75; go_loud (refine (ref05_DecodeState A1 c1 y _ (r1.ex hx0) hyl).mono ?_); rintro e w2 ⟨B, d, rfl, hB, hBn, hx2⟩; rw [← HEr.out, ← HSt.out]; rw [← HSt.out] at hB; have hx02 := hx0.trans hx2)
          | (go_at_call 76; go_loud (refine (ref09_table A2 c2 v _ (r2.ex (hx02.alloc _)) hvl).mono ?_); rintro e w3 ⟨v3, ts, ok, rfl, ho3, htr, hx3⟩; rw [Ht.out] at htr; (obtain rfl : ok = false := by cases ok; rfl; simp at htr); (obtain ⟨A3, c3, rfl, hr3⟩ := ho3.rd); have hx23 := ((Ex.refl w2).alloc _).trans hx3; have hx03 := hx02.trans hx23; (obtain ⟨⟨q0, f0⟩, ⟨q1, f1⟩, ⟨q2, f2⟩, ⟨q3, f3⟩, ⟨q4, f4⟩, ⟨q5, f5⟩⟩ := (HZ.out.ex hx2).ex hx23); have hw3 : w.heap.size < w3.heap.size := World.block_lt_of_cell? _ _ q0; clear htr))
        refine bodyPost_ret (v := .tuple #[.agg #[.int .i64 0, .int .i64 0, .slice none 0 0, .bool false, .int .i64 0, .slice none 0 0], .int .i64 3]) (by simp [results, Tryz.results39, go_sem, q0, q1, q2, q3, q4, q5, hw3]) rfl (RdR.none hs.out (by with_reducible (repeat' first | exact hx03 | refine Ex.alloc ?_ _ | refine Ex.set ?_ (Nat.le_refl _) _)))
      | some t =>
        have hs : Hid (readN b = (⟨0, st, t⟩, er)) := by rw [Hid, HSp2.out, ht]
        have Ht := Lib.hid ht
        clear ht
        go_enter Tryz.func39, Tryz.ntmps39
        go_wp2_with (first
          | (go_at_call 72; go_loud (refine (ref01_Get A c b _ (hr.ex hx0)).mono ?_); rintro e w1 ⟨rfl, rfl⟩; rw [← HN.out, ← HK.out])
          | (go_at_call 75; go_loud (refine (ref05_DecodeState A1 c1 y _ (r1.ex hx0) hyl).mono ?_); rintro e w2 ⟨B, d, rfl, hB, hBn, hx2⟩; rw [← HEr.out, ← HSt.out]; rw [← HSt.out] at hB; have hx02 := hx0.trans hx2)
          | (go_at_call 76; go_loud (refine (ref09_table A2 c2 v _ (r2.ex (hx02.alloc _)) hvl).mono ?_); rintro e w3 ⟨v3, ts, ok, rfl, ho3, htr, hx3⟩; rw [Ht.out] at htr; (obtain ⟨rfl, rfl⟩ : ok = true ∧ ts = t := by cases ok; simp at htr; exact ⟨rfl, by simpa using htr.symm⟩); (obtain ⟨A3, c3, rfl, hr3⟩ := ho3.rd); have hx23 := ((Ex.refl w2).alloc _).trans hx3; have hx03 := hx02.trans hx23; have hB3 := hB.ex hx23; (obtain ⟨⟨q0, f0⟩, ⟨q1, f1⟩, ⟨q2, f2⟩, ⟨q3, f3⟩, ⟨q4, f4⟩, ⟨q5, f5⟩⟩ := (HZ.out.ex hx2).ex hx23); have hw3 : w.heap.size < w3.heap.size := World.block_lt_of_cell? _ _ q0; have hw2 : w.heap.size < w2.heap.size := World.block_lt_of_cell? _ _ (HZ.out.ex hx2).1.1; (obtain ⟨p0, -⟩ := hx3.both (new_cell (u := .int .i64 st.kind) w2 #[.int .i64 st.kind, .slice B st.l.length d, .bool st.sealed, .int .i64 st.to] 36 0 rfl)); (obtain ⟨p1, -⟩ := hx3.both (new_cell (u := .slice B st.l.length d) w2 #[.int .i64 st.kind, .slice B st.l.length d, .bool st.sealed, .int .i64 st.to] 36 1 rfl)); (obtain ⟨p2, -⟩ := hx3.both (new_cell (u := .bool st.sealed) w2 #[.int .i64 st.kind, .slice B st.l.length d, .bool st.sealed, .int .i64 st.to] 36 2 rfl)); (obtain ⟨p3, -⟩ := hx3.both (new_cell (u := .int .i64 st.to) w2 #[.int .i64 st.kind, .slice B st.l.length d, .bool st.sealed, .int .i64 st.to] 36 3 rfl)); clear htr))
        have HNw : Hid (∀ a, B = some a → w.heap.size < a.block) := fun a ha => by have := hBn a ha; simp at this; omega
        have HNt : Hid (∀ a, A3 = some a → w.heap.size < a.block) := fun a ha => by subst ha; have := (ho3.lt a.block rfl).1; simp at this; omega
        refine bodyPost_ret (v := .tuple #[.agg #[.int .i64 0, .int .i64 st.kind, .slice B st.l.length d, .bool st.sealed, .int .i64 st.to, .slice A3 ts.length c3], .int .i64 er]) (by simp [results, Tryz.results39, go_sem, q0, q1, q2, q3, q4, q5, hw3]) rfl ⟨B, d, A3, c3, by rw [hs.out], ?_, ?_, ?_, ?_, ?_⟩
        · rw [hs.out]
          with_reducible
            repeat' first
              | exact hB3
              | refine Rd.grown ?_ (gb_setp _ _ _) (fun a ha e => by have h8 := HNw.out a ha; have := Option.some.inj e; simp only at this; omega)
        · rw [hs.out]
          with_reducible
            repeat' first
              | exact hr3
              | refine Rd.grown ?_ (gb_setp _ _ _) (fun a ha e => by have h8 := HNt.out a ha; have := Option.some.inj e; simp only at this; omega)
        · intro a ha; have := HNw.out a ha; omega
        · intro a ha; have := HNt.out a ha; omega
        · with_reducible (repeat' first | exact hx03 | refine Ex.set ?_ (Nat.le_refl _) _)
end Go.Proofs.YtdghbnkegahdnaaGreat.B
