/- The walks of package schema. -/
import Derived.Test.YtdghbnkegahdnaaGreatCodecW
import Derived.Test.YtdghbnkegahdnaaGreatSchema
set_option linter.unusedVariables false
set_option linter.unusedSimpArgs false
set_option maxRecDepth 100000
set_option maxHeartbeats 1000000
namespace Go.Proofs.YtdghbnkegahdnaaGreat.B
open Go Go.RowKit Go.Proofs

theorem schema_Fits (r : Rcd) (w : World) : Calls Tryz.prog 58 #[.agg #[.int .i64 r.index, .int .i64 r.proc, .int .i64 r.seq, .int .i64 r.op.code, .int .i64 r.op.a, .int .i64 r.op.b, .int .i64 r.resp]] w fun e w' => e = .returned (.bool (fitsR r)) ∧ Ex w w' := by
  obtain ⟨ix, pr, sq, ⟨code, x, y⟩, rs⟩ := r
  have hs0 : Hid (fitsR ⟨ix, pr, sq, ⟨code, x, y⟩, rs⟩ = (decide (0 ≤ ix) && decide (ix < 4611686018427387904) && decide (0 ≤ pr) && decide (pr ≤ 64) && decide (0 ≤ sq) && decide (sq < 4611686018427387904) && fitsO ⟨code, x, y⟩ && decide (-1125899906842624 ≤ rs) && decide (rs ≤ 1125899906842624))) := rfl
  have hx0 := (Ex.refl w).alloc (.cells #[.int .i64 ix, .int .i64 pr, .int .i64 sq, .int .i64 code, .int .i64 x, .int .i64 y, .int .i64 rs] 69)
  have k0 := Lib.hid (new_cell w #[.int .i64 ix, .int .i64 pr, .int .i64 sq, .int .i64 code, .int .i64 x, .int .i64 y, .int .i64 rs] 69 6 rfl)
  simp only
  cases h1 : decide (0 ≤ ix) with
  | false =>
    have hs : Hid (fitsR ⟨ix, pr, sq, ⟨code, x, y⟩, rs⟩ = false) := by have h := hs0.out; rw [h1] at h; rw [Hid, h]; simp
    go_enter Tryz.func58, Tryz.ntmps58
    go_wp2_with fail
    go_ret
    exact ⟨rbool hs.out.symm, hx0⟩
  | true =>
    cases h2 : decide (ix < 4611686018427387904) with
    | false =>
      have hs : Hid (fitsR ⟨ix, pr, sq, ⟨code, x, y⟩, rs⟩ = false) := by have h := hs0.out; rw [h1, h2] at h; rw [Hid, h]; simp
      go_enter Tryz.func58, Tryz.ntmps58
      go_wp2_with fail
      go_ret
      exact ⟨rbool hs.out.symm, hx0⟩
    | true =>
      cases h3 : decide (0 ≤ pr) with
      | false =>
        have hs : Hid (fitsR ⟨ix, pr, sq, ⟨code, x, y⟩, rs⟩ = false) := by have h := hs0.out; rw [h1, h2, h3] at h; rw [Hid, h]; simp
        go_enter Tryz.func58, Tryz.ntmps58
        go_wp2_with fail
        go_ret
        exact ⟨rbool hs.out.symm, hx0⟩
      | true =>
        cases h4 : decide (pr ≤ 64) with
        | false =>
          have hs : Hid (fitsR ⟨ix, pr, sq, ⟨code, x, y⟩, rs⟩ = false) := by have h := hs0.out; rw [h1, h2, h3, h4] at h; rw [Hid, h]; simp
          go_enter Tryz.func58, Tryz.ntmps58
          go_wp2_with fail
          go_ret
          exact ⟨rbool hs.out.symm, hx0⟩
        | true =>
          cases h5 : decide (0 ≤ sq) with
          | false =>
            have hs : Hid (fitsR ⟨ix, pr, sq, ⟨code, x, y⟩, rs⟩ = false) := by have h := hs0.out; rw [h1, h2, h3, h4, h5] at h; rw [Hid, h]; simp
            go_enter Tryz.func58, Tryz.ntmps58
            go_wp2_with fail
            go_ret
            exact ⟨rbool hs.out.symm, hx0⟩
          | true =>
            cases h6 : decide (sq < 4611686018427387904) with
            | false =>
              have hs : Hid (fitsR ⟨ix, pr, sq, ⟨code, x, y⟩, rs⟩ = false) := by have h := hs0.out; rw [h1, h2, h3, h4, h5, h6] at h; rw [Hid, h]; simp
              go_enter Tryz.func58, Tryz.ntmps58
              go_wp2_with fail
              go_ret
              exact ⟨rbool hs.out.symm, hx0⟩
            | true =>
              cases h7 : fitsO ⟨code, x, y⟩ with
              | false =>
                have H7 := Lib.hid h7; clear h7
                have hs : Hid (fitsR ⟨ix, pr, sq, ⟨code, x, y⟩, rs⟩ = false) := by have h := hs0.out; rw [h1, h2, h3, h4, h5, h6, H7.out] at h; rw [Hid, h]; simp
                go_enter Tryz.func58, Tryz.ntmps58
                go_wp2_with (go_at_call 92; (refine (objs_Fits ⟨code, x, y⟩ _).mono ?_); rintro e w1 ⟨rfl, hx1⟩; have hc6 := (hx1.both k0.out).1; rw [H7.out])
                go_ret
                exact ⟨rbool hs.out.symm, hx0.trans hx1⟩
              | true =>
                have H7 := Lib.hid h7; clear h7
                cases h8 : decide (-1125899906842624 ≤ rs) with
                | false =>
                  have hs : Hid (fitsR ⟨ix, pr, sq, ⟨code, x, y⟩, rs⟩ = false) := by have h := hs0.out; rw [h1, h2, h3, h4, h5, h6, H7.out, h8] at h; rw [Hid, h]; simp
                  go_enter Tryz.func58, Tryz.ntmps58
                  go_wp2_with (go_at_call 92; (refine (objs_Fits ⟨code, x, y⟩ _).mono ?_); rintro e w1 ⟨rfl, hx1⟩; have hc6 := (hx1.both k0.out).1; rw [H7.out])
                  go_ret
                  exact ⟨rbool hs.out.symm, hx0.trans hx1⟩
                | true =>
                  cases h9 : decide (rs ≤ 1125899906842624) with
                  | false =>
                    have hs : Hid (fitsR ⟨ix, pr, sq, ⟨code, x, y⟩, rs⟩ = false) := by have h := hs0.out; rw [h1, h2, h3, h4, h5, h6, H7.out, h8, h9] at h; rw [Hid, h]; simp
                    go_enter Tryz.func58, Tryz.ntmps58
                    go_wp2_with (go_at_call 92; (refine (objs_Fits ⟨code, x, y⟩ _).mono ?_); rintro e w1 ⟨rfl, hx1⟩; have hc6 := (hx1.both k0.out).1; rw [H7.out])
                    go_ret
                    exact ⟨rbool hs.out.symm, hx0.trans hx1⟩
                  | true =>
                    have hs : Hid (fitsR ⟨ix, pr, sq, ⟨code, x, y⟩, rs⟩ = true) := by have h := hs0.out; rw [h1, h2, h3, h4, h5, h6, H7.out, h8, h9] at h; rw [Hid, h]; simp
                    go_enter Tryz.func58, Tryz.ntmps58
                    go_wp2_with (go_at_call 92; (refine (objs_Fits ⟨code, x, y⟩ _).mono ?_); rintro e w1 ⟨rfl, hx1⟩; have hc6 := (hx1.both k0.out).1; rw [H7.out])
                    go_ret
                    exact ⟨rbool hs.out.symm, hx0.trans hx1⟩
end Go.Proofs.YtdghbnkegahdnaaGreat.B
