/- The walks of package codec, second part: DecodeState, first ways. -/
import Derived.Test.YtdghbnkegahdnaaGreatCodecW
import Derived.Deep.RegionLaw
set_option linter.unusedVariables false
set_option linter.unusedSimpArgs false
set_option maxRecDepth 100000
set_option maxHeartbeats 1000000
namespace Go.Proofs.YtdghbnkegahdnaaGreat.B
open Go Go.RowKit Go.Proofs

/-- One element, laid anew. -/
theorem rd_lit1 {α : Type} (E : Enc α) (w : World) (e : TypeId) (x : α) : Rd E (w.alloc (.cells (E.cs x).toArray e)) (some ⟨w.heap.size, 0, none⟩) 1 [x] := by
  obtain ⟨A, c, he, hr⟩ := (Own.lit (E := E) (e := e) w w.heap.size [x] (Nat.le_refl _) (by simp)).rd
  cases he
  simpa [Enc.all] using hr
theorem getMany_le : ∀ (n : Nat) (l : List UInt8), (getMany n l).2.1.length ≤ l.length
  | 0, l => Nat.le_refl _
  | n + 1, l => by
    simp only [getMany]
    have := getMany_le n (l.drop (getS l).2)
    rw [List.length_drop] at this; omega
theorem codec_DecodeState_bad (A : Option Addr) (c : Nat) (l : List UInt8) (w : World) (hr : Rd eB w A c l) (hl : l.length ≤ 70000000000000)
    (i x : Nat) (l1 : List UInt8) (j y : Nat) (l2 : List UInt8) (k z : Nat) (l3 : List UInt8) (hylt : y < 4611686018427387904) (n3 : l3.length ≤ 70000000000000)
    (HI : Hid (i = (get l).2)) (HX : Hid (x = (get l).1)) (HL1 : Hid (l1 = l.drop i)) (HJ : Hid (j = (get l1).2)) (HY : Hid (y = (get l1).1)) (HL2 : Hid (l2 = l1.drop j)) (HK : Hid (k = (get l2).2)) (HZ : Hid (z = (get l2).1)) (HL3 : Hid (l3 = l2.drop k))
    (f : Bool) (HF : Hid (f = (((true && decide (0 < i)) && decide (0 < j)) && decide (0 < k))))
    (hcase : (f = false ∧ Hid (decS l = (stZ, 3))) ∨ (f = true ∧ 3 < y ∧ Hid (decS l = (stZ, 3))) ∨ (f = true ∧ ¬ 3 < y ∧ 128 < z ∧ Hid (decS l = (stZ, 3)))) :
    Calls Tryz.prog 68 #[.slice A l.length c] w fun e w' => ∃ B d, e = .returned (.tuple #[.agg #[.int .i64 (decS l).1.kind, .slice B (decS l).1.l.length d, .bool (decS l).1.sealed, .int .i64 (decS l).1.to], .int .i64 (decS l).2]) ∧ Rd eI w' B d (decS l).1.l ∧ (∀ a, B = some a → w.heap.size ≤ a.block) ∧ Ex w w' := by
  have hr0 := hr.ex ((Ex.refl w).alloc (.cells #[.int .i64 0, .slice none 0 0, .bool false, .int .i64 0] 36))
  rcases hcase with ⟨hf, hs⟩ | ⟨hf, hy3, hs⟩ | ⟨hf, hy3, hz3, hs⟩
  all_goals
    subst hf
    have hmax : (if (y : Int) - 1 < 0 then (0 : Int) else (y : Int) - 1) = ((y - 1 : Nat) : Int) := by split <;> omega
    go_enter Tryz.func68, Tryz.ntmps68
    go_wp2_with (go_at_call 108; (refine (codec_reader A c l _ (w.heap.size + 1) (by simp) hr0).mono ?_); rintro e w1 ⟨rfl, hR1, hx1⟩)
    refine (rd_Get _ _ l true _ hR1).mono ?_
    rintro e w2 ⟨rfl, hR2, hx2⟩
    rw [← HI.out, ← HL1.out] at hR2
    rw [← HX.out]
    go_wp2_with fail
    refine (rd_Get _ _ l1 _ _ hR2).mono ?_
    rintro e w3 ⟨rfl, hR3, hx3⟩
    rw [← HJ.out, ← HL2.out] at hR3
    rw [← HY.out]
    go_wp2_with fail
    refine (rd_Get _ _ l2 _ _ hR3).mono ?_
    rintro e w4 ⟨rfl, hR4, hx4⟩
    rw [← HK.out, ← HF.out, ← HL3.out] at hR4
    rw [← HZ.out]
    have hxr : Ex (w.alloc (.cells #[.int .i64 0, .slice none 0 0, .bool false, .int .i64 0] 36)) w4 := hx4.ex (hx3.ex (hx2.ex hx1 (by simp) (by simp)) (by simp) (by simp)) (by simp) (by simp)
    have hx41 : Ex w w4 := ((Ex.refl w).alloc _).trans hxr
    obtain ⟨q0, f0⟩ := hxr.both (new_cell w _ _ 0 rfl)
    obtain ⟨q1, f1⟩ := hxr.both (new_cell w _ _ 1 rfl)
    obtain ⟨q2, f2⟩ := hxr.both (new_cell w _ _ 2 rfl)
    obtain ⟨q3, f3⟩ := hxr.both (new_cell w _ _ 3 rfl)
    have hw4 : w.heap.size < w4.heap.size := World.block_lt_of_cell? w4 _ q0
    clear hxr hx2 hx3 hx4 hR3 hR2 hR1 hx1 HI HX HL1 HJ HY HL2 HK HZ HL3 HF hr0
    go_wp2_with (go_at_call 143; (refine (codec_reader2 _ _ _ _ _ hR4).mono ?_); rintro e w5 ⟨rfl, rfl⟩)
    refine bodyPost_ret (v := .tuple #[.agg #[.int .i64 0, .slice none 0 0, .bool false, .int .i64 0], .int .i64 3]) (by simp [results, Tryz.results68, go_sem, q0, q1, q2, q3, hw4]) rfl ⟨none, 0, by rw [hs.out]; rfl, by rw [hs.out]; exact Rd.nil _ _ _ _, (fun a ha => by cases ha), ?_⟩
    repeat' first
      | exact hx41
      | refine Ex.alloc ?_ _
      | refine Ex.set ?_ (Nat.le_refl _) _
end Go.Proofs.YtdghbnkegahdnaaGreat.B
