/- SnapshotDecodes: whatever bytes come in, the call answers true, and the bytes read afterwards as they did: they are the snapshot, or refused with the first error, that the reference says. No condition. -/
import Derived.Test.YtdghbnkegahdnaaGreatRows
import Derived.Test.YtdghbnkegahdnaaGreatLaw9D
import Derived.Test.YtdghbnkegahdnaaGreatArgs
set_option linter.unusedVariables false
set_option linter.unusedSimpArgs false
namespace Go.Proofs.YtdghbnkegahdnaaGreat.B
open Go Go.RowKit Go.Proofs Go.WideShapes Go.ChangeShapes Go.ChangeAt

set_option maxRecDepth 100000 in
theorem decodes_lifted (os : Os) (started : os.Started) (H : Type) (enc : TypeId × Value → H) :
    ReturnsInHanded {} Tryz.checked os 4 .any (Rows.snapshotDecodesSpec.pre6 enc Tryz.prog Tryz.f4 Rows.snapshotDecodesRow.domain false) (Rows.snapshotDecodesSpec.post enc Tryz.prog Tryz.f4 false true false false) := by
  refine returnsInHanded_of_change (C := Tryz.checked) own started (by kernel_rfl) Tryz.func4
    (ChangeSpec.witness6 (enc := enc) (C := Tryz.checked) false ⟨#[], #[.slice none 0 0], []⟩ 8 (by kernel_rfl) (by kernel_rfl) (by kernel_rfl) (by kernel_rfl)) ?_
  intro W base args ds gs before hval0 hW hcnd _
  have hW' : DataW.Whole enc Tryz.prog Tryz.f4.params.toList Rows.snapshotDecodesSpec.vars false W args.toList ds gs before := hW
  obtain ⟨p, q, hA0, hV, rfl, hfz, hnd⟩ := hW'
  have hA : DataW.TrodAll enc Tryz.prog W 0 (fun _ => true) true Tryz.f4.params.toList args.toList ds p := hA0
  rw [Tryz.params4] at hA
  obtain ⟨v0, vs0, d0, ds0, p0, q0, hargs, rfl, rfl, h0, r0⟩ := trodAll_cons hA
  obtain ⟨rfl, rfl, rfl⟩ := trodAll_nil r0
  obtain rfl : args = #[v0] := by cases args; simp_all
  obtain ⟨fuel, h0⟩ := h0
  have hval : Value.okWide Tryz.prog W .any base 22 v0 := hval0 0 22 v0 (by rw [show Tryz.f4.params = #[22] from Tryz.params4]; rfl) rfl
  obtain ⟨A, c, b, hcs, hr, _⟩ := open_rd (E := eB) Tryz.underlying22 (by kernel_rfl) (reads_u8 Tryz.underlying5) h0
  obtain rfl := cells_slice Tryz.underlying22 hval hcs
  refine (law_decodes A c b W hr).mono fun e W' ⟨he, hx⟩ => ⟨_, he, post_law (tb := 4) laidOut rfl ?_ (by kernel_rfl) Tryz.underlying4 ?_ hW hx⟩
  · intro t ht
    have ht' : t ∈ [22] := by
      rw [show Tryz.f4.params.toList = [22] from by rw [Tryz.params4]] at ht
      exact ht
    simp only [List.mem_singleton] at ht'
    subst ht'
    exact ⟨by kernel_rfl, of_decide_eq_true (by kernel_rfl)⟩
  · intro ds hds
    rw [show Tryz.f4.params.size = 1 from by rw [Tryz.params4]; rfl] at hds
    match ds, hds with
    | [d], _ => rfl
theorem decodes_holds : Rows.SnapshotDecodesSaid :=
  OpenClaim.holds_of_wide 4 Tryz.f4 rfl rfl rfl rfl rfl rfl rfl ⟨rfl, rfl, rfl, rfl, rfl⟩ rfl rfl rfl rfl rfl (by kernel_rfl) Tryz.func4 (by kernel_rfl)
    (of_decide_eq_true (by kernel_rfl)) (by unfold Func.isWrapper; first | (rw [if_pos (by decide +kernel)]; kernel_rfl) | (rw [if_neg (by decide +kernel)]; exact ⟨rfl, rfl⟩))
    (fun os started H enc _ => decodes_lifted os started H enc)
end Go.Proofs.YtdghbnkegahdnaaGreat.B
