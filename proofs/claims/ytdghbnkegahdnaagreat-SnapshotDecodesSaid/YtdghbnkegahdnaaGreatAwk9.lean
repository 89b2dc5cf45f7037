/- The walk of the example of the statements about snapshots. -/
import Derived.Test.YtdghbnkegahdnaaGreatAwk
import Derived.Test.YtdghbnkegahdnaaGreatSnapE
set_option linter.unusedVariables false
set_option linter.unusedSimpArgs false
set_option maxRecDepth 100000
set_option maxHeartbeats 2000000
namespace Go.Proofs.YtdghbnkegahdnaaGreat.B
open Go Go.RowKit Go.Proofs

theorem encN_len (s : Snp) (h : mayN s = true) : 10 < (encN s).length := by
  have hm := (mayN_iff s).1 h
  have hw := wholeN_len s h
  have h1 := put_pos 3 (by omega) (by omega)
  have h2 := put_pos s.index hm.1 hm.2.1
  have h3 := put_pos ((wholeN s).length : Int) (by omega) (by omega)
  have h4 := manB_len s.index (wholeN s)
  have h5 := put_pos ((manB s.index (wholeN s)).length : Int) (by omega) (by omega)
  rw [encN, List.length_append, encF_ok (by omega), frameB_len]
  simp only [manB, List.length_cons, List.length_append, fix_len] at h5 ⊢
  omega
def snA : Snp := ⟨1, ⟨0, [5], false, 0⟩, [⟨2, 1, 0⟩]⟩
theorem law09_awake (w : World) : Calls Tryz.prog 11 #[] w fun e w' => e = .returned (.bool true) ∧ Ex w w' := by
  have hm : mayN snA = true := by decide
  have Hm := Lib.hid hm
  have hlen := encN_len snA hm
  obtain ⟨bs, hbs⟩ : ∃ bs, bs = encN snA := ⟨_, rfl⟩
  rw [← hbs] at hlen
  have Hbs := Lib.hid hbs
  clear hm hbs
  have hx2 : Ex w ((w.alloc (.cells #[.int .i64 0] 3)).alloc (.cells #[.int .i64 0, .int .i64 2, .int .i64 1, .int .i64 1, .int .i64 5, .int .i64 0, .int .i64 0] 69)) := ((Ex.refl w).alloc _).alloc _
  have hA : Rd eI ((w.alloc (.cells #[.int .i64 0] 3)).alloc (.cells #[.int .i64 0, .int .i64 2, .int .i64 1, .int .i64 1, .int .i64 5, .int .i64 0, .int .i64 0] 69)) (some ⟨w.heap.size, 0, none⟩) 1 [0] := (rd_one eI w 3 0).ex ((Ex.refl _).alloc _)
  have hB : Rd eR ((w.alloc (.cells #[.int .i64 0] 3)).alloc (.cells #[.int .i64 0, .int .i64 2, .int .i64 1, .int .i64 1, .int .i64 5, .int .i64 0, .int .i64 0] 69)) (some ⟨w.heap.size + 1, 0, none⟩) 1 [rc0] := by
    have h := rd_one eR (w.alloc (.cells #[.int .i64 0] 3)) 69 rc0
    rw [show (w.alloc (.cells #[.int .i64 0] 3)).heap.size = w.heap.size + 1 by simp] at h
    exact h
  go_enter Tryz.func11, Tryz.ntmps11
  go_wp2_with (first
    | (go_at_call 27; go_loud (with_reducible refine (take_awk _ 1 _ 1 _ hA hB).mono ?_); rintro e w3 ⟨C, D, c2, d2, rfl, hrC, hrD, hx3⟩)
    | (go_at_call 28; go_loud (refine (snap_Encode snA C c2 D d2 _ (hrC.ex ((Ex.refl _).alloc _)) (by decide) (hrD.ex ((Ex.refl _).alloc _))).mono ?_); rintro e w5 ⟨v5, rfl, ho5, hx5⟩; rw [if_pos Hm.out] at ho5 ⊢; rw [← Hbs.out] at ho5; (obtain ⟨A5, c5, rfl, hr5⟩ := ho5.rd); (obtain ⟨q0, -⟩ := hx5.both (new_cell (u := .int .i64 1) w3 #[.int .i64 1, .int .i64 0, .slice C 1 c2, .bool false, .int .i64 0, .slice D 1 d2] 39 0 rfl)); (obtain ⟨q1, -⟩ := hx5.both (new_cell (u := .int .i64 0) w3 #[.int .i64 1, .int .i64 0, .slice C 1 c2, .bool false, .int .i64 0, .slice D 1 d2] 39 1 rfl)); (obtain ⟨q2, -⟩ := hx5.both (new_cell (u := .slice C 1 c2) w3 #[.int .i64 1, .int .i64 0, .slice C 1 c2, .bool false, .int .i64 0, .slice D 1 d2] 39 2 rfl)); (obtain ⟨q3, -⟩ := hx5.both (new_cell (u := .bool false) w3 #[.int .i64 1, .int .i64 0, .slice C 1 c2, .bool false, .int .i64 0, .slice D 1 d2] 39 3 rfl)); (obtain ⟨q4, -⟩ := hx5.both (new_cell (u := .int .i64 0) w3 #[.int .i64 1, .int .i64 0, .slice C 1 c2, .bool false, .int .i64 0, .slice D 1 d2] 39 4 rfl)); (obtain ⟨q5, -⟩ := hx5.both (new_cell (u := .slice D 1 d2) w3 #[.int .i64 1, .int .i64 0, .slice C 1 c2, .bool false, .int .i64 0, .slice D 1 d2] 39 5 rfl)); have hx35 : Ex w3 w5 := ((Ex.refl w3).alloc _).trans hx5; (obtain ⟨dd, rfl, hEnt⟩ := entAt (hrD.ex hx35) (k := 0) (by decide)); rw [Nat.zero_mul, show dd.add 0 = dd from by unfold Addr.add; rw [if_pos rfl]] at hEnt; have hE2 : EntAt w5 dd ⟨2, 1, 0⟩ := hEnt; (obtain ⟨e0, e1, e2⟩ := hE2); simp only at e0 e1 e2; (obtain ⟨cc, rfl, hc5⟩ := (hrC.ex hx35).at1 (j := 0) (u := .int .i64 5) rfl (by decide) rfl); rw [show cc.add 0 = cc from by unfold Addr.add; rw [if_pos rfl]] at hc5; clear hEnt; have hx05 : Ex w w5 := (hx2.trans hx3).trans hx35))
  go_ret
  exact ⟨rfl, hx05⟩
end Go.Proofs.YtdghbnkegahdnaaGreat.B
