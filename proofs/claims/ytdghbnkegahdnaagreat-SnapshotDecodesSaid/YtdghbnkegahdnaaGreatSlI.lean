/- The walks of package slices at ints: Equal, Clone, IndexFunc, ContainsFunc. Written by gen_sl.py out of those at bytes. -/
import Derived.Test.YtdghbnkegahdnaaGreatSlB
set_option linter.unusedVariables false
set_option linter.unusedSimpArgs false
set_option maxRecDepth 100000
set_option maxHeartbeats 1000000
namespace Go.Proofs.YtdghbnkegahdnaaGreat.B
open Go Go.RowKit Go.Proofs

theorem infoI : (Tryz.prog.info? 3).map (fun i => (i.zero, i.size, i.bytes)) = some (some (.int .i64 0), 1, 8) := by kernel_rfl
theorem sizeI : (Tryz.prog.info? 3).map (·.size) = some eI.sz := by kernel_rfl
theorem slices_CloneI (A : Option Addr) (c : Nat) (xs : List Int) (w : World) (hr : Rd eI w A c xs) (hl : xs.length ≤ 4000000000000) :
    Calls Tryz.prog 132 #[.slice A xs.length c] w fun e w' => ∃ v, e = .returned v ∧ Own eI 3 w' w.heap.size v xs ∧ Ex w w' := by
  have hnil := fun (w : World) => Go.Lib.run_eql_slice_nil (P := Tryz.prog) w 34 3 A xs.length c 0 0 Tryz.underlying34
  rcases A with _ | ad
  · have hx : xs = [] := by
      rcases xs with _ | ⟨x, xs⟩
      · rfl
      · obtain ⟨ad, h, _⟩ := hr.2.2 (by simp)
        cases h
    subst hx
    have hnil0 := fun (w : World) => Go.Lib.run_eql_slice_nil (P := Tryz.prog) w 34 3 none 0 c 0 0 Tryz.underlying34
    go_enter Tryz.func132, Tryz.ntmps132
    go_wp2
    go_ret
    exact ⟨_, rfl, Own.nil _ _ _ _, Ex.refl _⟩
  · have ho0 : Own eI 3 (w.alloc (.cells #[] 3)) w.heap.size (.slice (some ⟨w.heap.size, 0, none⟩) 0 0) ([] : List Int) := Own.lit (E := eI) w w.heap.size [] (Nat.le_refl _) (by simp)
    have hr1 := hr.ex ((Ex.refl w).alloc (.cells #[] 3))
    go_enter Tryz.func132, Tryz.ntmps132
    go_wp2_with ((with_reducible refine gate_bi (b := .append) (xs := #[.tmp 5, .tmp 6]) rfl ?_); at_builtin; go_loud (refine own_appR eI w.heap.size rfl (.tmp 5) (.tmp 6) 34 3 (.int .i64 0) 8 rfl Tryz.underlying34 infoI rfl (by decide) _ [] xs (some ad) c rfl rfl ho0 hr1 (by simp) (by simp; omega) ?_); intro v1 w1 ho1 hg1 ha1)
    go_ret
    exact ⟨v1, rfl, by simpa using ho1, ((Ex.refl w).alloc _).grown hg1 (fun k hk => by cases hk; exact Nat.le_refl _)⟩

theorem slices_IndexFuncI (p : Int → Bool) (f : Nat) (hf : Fv Tryz.prog f) (hp : ∀ (b : Int) (w : World), Calls Tryz.prog f #[.int .i64 b] w fun e w' => e = .returned (.bool (p b)) ∧ w = w') (A : Option Addr) (c : Nat) (xs : List Int) (w : World) (hr : Rd eI w A c xs) :
    Calls Tryz.prog 146 #[.slice A xs.length c, .func (.func f) #[] #[]] w fun e w' => e = .returned (.int .i64 (idxI p xs)) ∧ w = w' := by
  have hlx := hr.lt63
  have Hp := Lib.hid hp; clear hp
  go_enter Tryz.func146, Tryz.ntmps146
  go_wp2_with fail
  go_loop [8] (fun i => ∃ k : Nat, i = .int .i64 k ∧ k ≤ xs.length ∧ Hid ((xs.take k).any p = false)) (fun i => (xs.length - intOf i).toNat)
  case atStart => exact ⟨0, rfl, by omega, rfl⟩
  case round =>
    obtain ⟨k, rfl, hk, he⟩ := hrel
    by_cases hlt : k < xs.length
    · obtain ⟨ad, rfl, hc⟩ := hr.at1 rfl hlt rfl
      cases hpk : p xs[k] with
      | true =>
        have Hpk := Lib.hid hpk; clear hpk
        go_wp2_with ((with_reducible refine gate_val (x := .tmp 11) (ps := #[.tmp 15]) rfl ?_); refine callv hf #[] #[.int .i64 xs[k]] rfl (.tmp 11) #[.tmp 15] _ rfl rfl rfl ?_; refine (Hp.out xs[k] _).mono ?_; rintro e w1 ⟨rfl, rfl⟩; refine ⟨_, rfl, ?_⟩; rw [Hpk.out])
        go_ret
        exact ⟨rint (idxI_some he.out hlt Hpk.out).symm, rfl⟩
      | false =>
        have Hpk := Lib.hid hpk; clear hpk
        go_wp2_with ((with_reducible refine gate_val (x := .tmp 11) (ps := #[.tmp 15]) rfl ?_); refine callv hf #[] #[.int .i64 xs[k]] rfl (.tmp 11) #[.tmp 15] _ rfl rfl rfl ?_; refine (Hp.out xs[k] _).mono ?_; rintro e w1 ⟨rfl, rfl⟩; refine ⟨_, rfl, ?_⟩; rw [Hpk.out])
        go_round
        case rel => exact ⟨k + 1, rfl, hlt, any_take_succ he.out hlt Hpk.out⟩
        case measure => simp [intOf]; omega
    · have hall : Hid (idxI p xs = -1) := by
        have h := he.out
        rw [List.take_of_length_le (by omega)] at h
        exact idxI_none h
      go_wp2_with fail
      go_ret
      exact ⟨rint hall.out.symm, rfl⟩
theorem slices_ContainsFuncI (p : Int → Bool) (f : Nat) (hf : Fv Tryz.prog f) (hp : ∀ (b : Int) (w : World), Calls Tryz.prog f #[.int .i64 b] w fun e w' => e = .returned (.bool (p b)) ∧ w = w') (A : Option Addr) (c : Nat) (xs : List Int) (w : World) (hr : Rd eI w A c xs) :
    Calls Tryz.prog 110 #[.slice A xs.length c, .func (.func f) #[] #[]] w fun e w' => e = .returned (.bool (xs.any p)) ∧ w = w' := by
  have Hp := Lib.hid hp; clear hp
  have ha := Lib.hid (idxI_any p xs)
  go_enter Tryz.func110, Tryz.ntmps110
  go_wp2_with (go_at_call 146; (with_reducible refine (slices_IndexFuncI p f hf Hp.out A c xs _ hr).mono ?_); rintro e w1 ⟨rfl, rfl⟩)
  go_ret
  exact ⟨rbool ha.out, rfl⟩
end Go.Proofs.YtdghbnkegahdnaaGreat.B
