/- SnapshotBack: whatever snapshot comes in, the call answers true, and the snapshot reads afterwards as it did: it is decoded as it was encoded. No condition. -/
import Derived.Test.YtdghbnkegahdnaaRows
import Derived.Test.YtdghbnkegahdnaaLaw9b
import Derived.Test.YtdghbnkegahdnaaArgsS
set_option linter.unusedVariables false
set_option linter.unusedSimpArgs false
namespace Go.Proofs.Ytdghbnkegahdnaa.B
open Go Go.RowKit Go.Proofs Go.WideShapes Go.ChangeShapes Go.ChangeAt

set_option maxRecDepth 100000 in
theorem back_lifted (os : Os) (started : os.Started) (H : Type) (enc : TypeId × Value → H) :
    ReturnsInHanded {} Try.checked os 6 .any (Rows.snapshotBackSpec.pre6 enc Try.prog Try.f6 Rows.snapshotBackRow.domain false) (Rows.snapshotBackSpec.post enc Try.prog Try.f6 false true false false) := by
  refine returnsInHanded_of_change (C := Try.checked) own started (by kernel_rfl) Try.func6
    (ChangeSpec.witness6 (enc := enc) (C := Try.checked) false ⟨#[], #[.agg #[.int .i64 0, .int .i64 0, .slice none 0 0, .bool false, .int .i64 0, .slice none 0 0]], []⟩ 8 (by kernel_rfl) (by kernel_rfl) (by kernel_rfl) (by kernel_rfl)) ?_
  intro W base args ds gs before hval0 hW hcnd _
  have hW' : DataW.Whole enc Try.prog Try.f6.params.toList Rows.snapshotBackSpec.vars false W args.toList ds gs before := hW
  obtain ⟨p, q, hA0, hV, rfl, hfz, hnd⟩ := hW'
  have hA : DataW.TrodAll enc Try.prog W 0 (fun _ => true) true Try.f6.params.toList args.toList ds p := hA0
  rw [Try.params6] at hA
  obtain ⟨v0, vs0, d0, ds0, p0, q0, hargs, rfl, rfl, h0, r0⟩ := trodAll_cons hA
  obtain ⟨rfl, rfl, rfl⟩ := trodAll_nil r0
  obtain rfl : args = #[v0] := by cases args; simp_all
  obtain ⟨fuel, h0⟩ := h0
  have hval : Value.okWide Try.prog W .any base 44 v0 := hval0 0 44 v0 (by rw [show Try.f6.params = #[44] from Try.params6]; rfl) rfl
  obtain ⟨s, A, c, B, d, hcs, hr, ht⟩ := trod_snap h0
  obtain rfl := cells_agg Try.underlying44 hval hcs
  refine (law_back s A c B d W hr ht).mono fun e W' ⟨he, hx⟩ => ⟨_, he, post_law (tb := 4) laidOut rfl ?_ (by kernel_rfl) Try.underlying4 ?_ hW hx⟩
  · intro t ht
    have ht' : t ∈ [44] := by
      rw [show Try.f6.params.toList = [44] from by rw [Try.params6]] at ht
      exact ht
    simp only [List.mem_singleton] at ht'
    subst ht'
    exact ⟨by kernel_rfl, of_decide_eq_true (by kernel_rfl)⟩
  · intro ds hds
    rw [show Try.f6.params.size = 1 from by rw [Try.params6]; rfl] at hds
    match ds, hds with
    | [d], _ => rfl
theorem back_holds : Rows.SnapshotBackSaid :=
  OpenClaim.holds_of_wide 6 Try.f6 rfl rfl rfl rfl rfl rfl rfl ⟨rfl, rfl, rfl, rfl, rfl⟩ rfl rfl rfl rfl rfl (by kernel_rfl) Try.func6 (by kernel_rfl)
    (of_decide_eq_true (by kernel_rfl)) (by unfold Func.isWrapper; first | (rw [if_pos (by decide +kernel)]; kernel_rfl) | (rw [if_neg (by decide +kernel)]; exact ⟨rfl, rfl⟩))
    (fun os started H enc _ => back_lifted os started H enc)
end Go.Proofs.Ytdghbnkegahdnaa.B
