/- SnapshotOnce: whatever bytes come in, the call answers true, and the bytes read afterwards as they did: what is decoded may be, and is encoded as just these bytes. No condition. -/
import Derived.Test.YtdghbnkegahdnaaRows
import Derived.Test.YtdghbnkegahdnaaLaw9
import Derived.Test.YtdghbnkegahdnaaArgs
set_option linter.unusedVariables false
set_option linter.unusedSimpArgs false
namespace Go.Proofs.Ytdghbnkegahdnaa.B
open Go Go.RowKit Go.Proofs Go.WideShapes Go.ChangeShapes Go.ChangeAt

set_option maxRecDepth 100000 in
theorem once_lifted (os : Os) (started : os.Started) (H : Type) (enc : TypeId × Value → H) :
    ReturnsInHanded {} Try.checked os 4 .any (Rows.snapshotOnceSpec.pre6 enc Try.prog Try.f4 Rows.snapshotOnceRow.domain false) (Rows.snapshotOnceSpec.post enc Try.prog Try.f4 false true false false) := by
  refine returnsInHanded_of_change (C := Try.checked) own started (by kernel_rfl) Try.func4
    (ChangeSpec.witness6 (enc := enc) (C := Try.checked) false ⟨#[], #[.slice none 0 0], []⟩ 8 (by kernel_rfl) (by kernel_rfl) (by kernel_rfl) (by kernel_rfl)) ?_
  intro W base args ds gs before hval0 hW hcnd _
  have hW' : DataW.Whole enc Try.prog Try.f4.params.toList Rows.snapshotOnceSpec.vars false W args.toList ds gs before := hW
  obtain ⟨p, q, hA0, hV, rfl, hfz, hnd⟩ := hW'
  have hA : DataW.TrodAll enc Try.prog W 0 (fun _ => true) true Try.f4.params.toList args.toList ds p := hA0
  rw [Try.params4] at hA
  obtain ⟨v0, vs0, d0, ds0, p0, q0, hargs, rfl, rfl, h0, r0⟩ := trodAll_cons hA
  obtain ⟨rfl, rfl, rfl⟩ := trodAll_nil r0
  obtain rfl : args = #[v0] := by cases args; simp_all
  obtain ⟨fuel, h0⟩ := h0
  have hval : Value.okWide Try.prog W .any base 26 v0 := hval0 0 26 v0 (by rw [show Try.f4.params = #[26] from Try.params4]; rfl) rfl
  obtain ⟨A, c, b, hcs, hr, _⟩ := open_rd (E := eB) Try.underlying26 (by kernel_rfl) (reads_u8 Try.underlying5) h0
  obtain rfl := cells_slice Try.underlying26 hval hcs
  refine (law_once A c b W hr).mono fun e W' ⟨he, hx⟩ => ⟨_, he, post_law (tb := 4) laidOut rfl ?_ (by kernel_rfl) Try.underlying4 ?_ hW hx⟩
  · intro t ht
    have ht' : t ∈ [26] := by
      rw [show Try.f4.params.toList = [26] from by rw [Try.params4]] at ht
      exact ht
    simp only [List.mem_singleton] at ht'
    subst ht'
    exact ⟨by kernel_rfl, of_decide_eq_true (by kernel_rfl)⟩
  · intro ds hds
    rw [show Try.f4.params.size = 1 from by rw [Try.params4]; rfl] at hds
    match ds, hds with
    | [d], _ => rfl
theorem once_holds : Rows.SnapshotOnceSaid :=
  OpenClaim.holds_of_wide 4 Try.f4 rfl rfl rfl rfl rfl rfl rfl ⟨rfl, rfl, rfl, rfl, rfl⟩ rfl rfl rfl rfl rfl (by kernel_rfl) Try.func4 (by kernel_rfl)
    (of_decide_eq_true (by kernel_rfl)) (by unfold Func.isWrapper; first | (rw [if_pos (by decide +kernel)]; kernel_rfl) | (rw [if_neg (by decide +kernel)]; exact ⟨rfl, rfl⟩))
    (fun os started H enc _ => once_lifted os started H enc)
end Go.Proofs.Ytdghbnkegahdnaa.B
