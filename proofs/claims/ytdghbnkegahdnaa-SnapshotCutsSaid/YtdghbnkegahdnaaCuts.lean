/- SnapshotCuts: whatever snapshot, place and bytes come in, the call answers true, and all of them read afterwards as they did: a proper beginning of a snapshot's bytes is refused, and so is one with something behind it. No condition. -/
import Derived.Test.YtdghbnkegahdnaaRows
import Derived.Test.YtdghbnkegahdnaaLaw9c
import Derived.Test.YtdghbnkegahdnaaArgsS
set_option linter.unusedVariables false
set_option linter.unusedSimpArgs false
namespace Go.Proofs.Ytdghbnkegahdnaa.B
open Go Go.RowKit Go.Proofs Go.WideShapes Go.ChangeShapes Go.ChangeAt

set_option maxRecDepth 100000 in
theorem cuts_lifted (os : Os) (started : os.Started) (H : Type) (enc : TypeId × Value → H) :
    ReturnsInHanded {} Try.checked os 5 .any (Rows.snapshotCutsSpec.pre6 enc Try.prog Try.f5 Rows.snapshotCutsRow.domain false) (Rows.snapshotCutsSpec.post enc Try.prog Try.f5 false true false false) := by
  refine returnsInHanded_of_change (C := Try.checked) own started (by kernel_rfl) Try.func5
    (ChangeSpec.witness6 (enc := enc) (C := Try.checked) false ⟨#[], #[.agg #[.int .i64 0, .int .i64 0, .slice none 0 0, .bool false, .int .i64 0, .slice none 0 0], .int .i64 0, .slice none 0 0], []⟩ 8 (by kernel_rfl) (by kernel_rfl) (by kernel_rfl) (by kernel_rfl)) ?_
  intro W base args ds gs before hval0 hW hcnd _
  have hW' : DataW.Whole enc Try.prog Try.f5.params.toList Rows.snapshotCutsSpec.vars false W args.toList ds gs before := hW
  obtain ⟨p, q, hA0, hV, rfl, hfz, hnd⟩ := hW'
  have hA : DataW.TrodAll enc Try.prog W 0 (fun _ => true) true Try.f5.params.toList args.toList ds p := hA0
  rw [Try.params5] at hA
  obtain ⟨v0, vs0, d0, ds0, p0, q0, hargs, rfl, rfl, h0, r0⟩ := trodAll_cons hA
  obtain ⟨v1, vs1, d1, ds1, p1, q1, rfl, rfl, rfl, h1, r1⟩ := trodAll_cons r0
  obtain ⟨v2, vs2, d2, ds2, p2, q2, rfl, rfl, rfl, h2, r2⟩ := trodAll_cons r1
  obtain ⟨rfl, rfl, rfl⟩ := trodAll_nil r2
  obtain rfl : args = #[v0, v1, v2] := by cases args; simp_all
  obtain ⟨fuel0, h0⟩ := h0
  obtain ⟨fuel1, h1⟩ := h1
  obtain ⟨fuel2, h2⟩ := h2
  have hps : Try.f5.params = #[44, 3, 26] := Try.params5
  have hv0 : Value.okWide Try.prog W .any base 44 v0 := hval0 0 44 v0 (by rw [hps]; rfl) rfl
  have hv1 : Value.okWide Try.prog W .any base 3 v1 := hval0 1 3 v1 (by rw [hps]; rfl) rfl
  have hv2 : Value.okWide Try.prog W .any base 26 v2 := hval0 2 26 v2 (by rw [hps]; rfl) rfl
  obtain ⟨s, A, c, B, d, hcs, hr, ht⟩ := trod_snap h0
  obtain rfl := cells_agg Try.underlying44 hv0 hcs
  obtain ⟨n, hn, _⟩ := reads_int Try.underlying3 h1
  obtain rfl := cells_int Try.underlying3 hv1 hn
  obtain ⟨M, cm, m, hm, hrm, _⟩ := open_rd (E := eB) Try.underlying26 (by kernel_rfl) (reads_u8 Try.underlying5) h2
  obtain rfl := cells_slice Try.underlying26 hv2 hm
  refine (law_cuts s A c B d n M cm m W hr ht hrm).mono fun e W' ⟨he, hx⟩ => ⟨_, he, post_law (tb := 4) laidOut rfl ?_ (by kernel_rfl) Try.underlying4 ?_ hW hx⟩
  · intro t ht
    have ht' : t ∈ [44, 3, 26] := by
      rw [show Try.f5.params.toList = [44, 3, 26] from by rw [hps]] at ht
      exact ht
    simp only [List.mem_cons, List.not_mem_nil, or_false] at ht'
    rcases ht' with rfl | rfl | rfl
    · exact ⟨by kernel_rfl, of_decide_eq_true (by kernel_rfl)⟩
    · exact ⟨by kernel_rfl, of_decide_eq_true (by kernel_rfl)⟩
    · exact ⟨by kernel_rfl, of_decide_eq_true (by kernel_rfl)⟩
  · intro ds hds
    rw [show Try.f5.params.size = 3 from by rw [hps]; rfl] at hds
    match ds, hds with
    | [d1, d2, d3], _ => rfl
theorem cuts_holds : Rows.SnapshotCutsSaid :=
  OpenClaim.holds_of_wide 5 Try.f5 rfl rfl rfl rfl rfl rfl rfl ⟨rfl, rfl, rfl, rfl, rfl⟩ rfl rfl rfl rfl rfl (by kernel_rfl) Try.func5 (by kernel_rfl)
    (of_decide_eq_true (by kernel_rfl)) (by unfold Func.isWrapper; first | (rw [if_pos (by decide +kernel)]; kernel_rfl) | (rw [if_neg (by decide +kernel)]; exact ⟨rfl, rfl⟩))
    (fun os started H enc _ => cuts_lifted os started H enc)
end Go.Proofs.Ytdghbnkegahdnaa.B
