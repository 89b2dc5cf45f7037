/- The walk of slices.Equal at ints. -/
import Derived.Test.YtdghbnkegahdnaaSlI
set_option linter.unusedVariables false
set_option linter.unusedSimpArgs false
set_option maxRecDepth 100000
set_option maxHeartbeats 1000000
namespace Go.Proofs.Ytdghbnkegahdnaa.B
open Go Go.RowKit Go.Proofs

theorem slices_EqualI (A : Option Addr) (c : Nat) (xs : List Int) (A' : Option Addr) (c' : Nat) (ys : List Int) (w : World) (hr : Rd eI w A c xs) (hr' : Rd eI w A' c' ys) :
    Calls Try.prog 73 #[.slice A xs.length c, .slice A' ys.length c'] w fun e w' => e = .returned (.bool (decide (xs = ys))) ∧ Ex w w' := by
  have hlx := hr.lt63
  by_cases hlen : xs.length = ys.length
  · have h1 : ((xs.length : Int) != (ys.length : Int)) = false := by rw [hlen]; simp
    have Hlen := Lib.hid hlen; clear hlen
    go_enter Try.func73, Try.ntmps73
    go_wp2
    go_loopw [13] (fun i wr => ∃ k : Nat, i = .int .i64 k ∧ k ≤ xs.length ∧ Ex w wr ∧ Hid (xs.take k = ys.take k)) (fun i _ => (xs.length - intOf i).toNat)
    case atStart => exact ⟨0, rfl, by omega, Ex.refl _, rfl⟩
    case round =>
      obtain ⟨k, rfl, hk, hx, he⟩ := hrel
      by_cases hlt : k < xs.length
      · have hlt' : k < ys.length := by rw [← Hlen.out]; exact hlt
        obtain ⟨ad, rfl, hc⟩ := (hr.ex hx).at1 rfl hlt rfl
        obtain ⟨ad', rfl, hc'⟩ := (hr'.ex hx).at1 rfl hlt' rfl
        have p1 : (0 : Int) ≤ (k : Int) := by omega
        have p2 : (k : Int) < (xs.length : Int) := by omega
        have p3 : (k : Int) < (ys.length : Int) := by omega
        by_cases hxy : xs[k] = ys[k]
        · have hb : (xs[k] != ys[k]) = false := by rw [hxy]; simp
          have he2 := Lib.hid (take_eq_succ he.out hlt hlt' hxy)
          clear hxy
          go_wp2
          go_quiet (fail)
          go_wp2
          go_roundw
          case rel => exact ⟨k + 1, rfl, hlt, hx.drewN _, he2⟩
          case measure => simp [intOf]; omega
        · have hb : (xs[k] != ys[k]) = true := by rw [bne_iff_ne]; exact hxy
          have hne : Hid (¬ xs = ys) := fun h => hxy (by subst h; rfl)
          clear hxy
          go_wp2
          go_quiet (fail)
          go_wp2
          go_ret
          exact ⟨rbool (by rw [decide_eq_false hne.out]), hx.drewN _⟩
      · have hne : Hid (xs = ys) := by
          have h := he.out
          rw [List.take_of_length_le (by omega), List.take_of_length_le (by have := Hlen.out; omega)] at h
          exact h
        go_wp2
        go_ret
        exact ⟨rbool (by rw [decide_eq_true hne.out]), hx⟩
  · have h1 : ((xs.length : Int) != (ys.length : Int)) = true := by rw [bne_iff_ne]; omega
    have hne : Hid (¬ xs = ys) := fun h => hlen (by rw [h])
    clear hlen
    go_enter Try.func73, Try.ntmps73
    go_wp2
    go_ret
    exact ⟨rbool (by rw [decide_eq_false hne.out]), Ex.refl _⟩

end Go.Proofs.Ytdghbnkegahdnaa.B
