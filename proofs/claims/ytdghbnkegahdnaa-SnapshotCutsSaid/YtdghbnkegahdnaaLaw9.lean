/- The walks of the statements about snapshots, and what they reach besides. -/
import Derived.Test.YtdghbnkegahdnaaEqE
import Derived.Lib.BufferRead
import Derived.Test.YtdghbnkegahdnaaAwk9
set_option linter.unusedVariables false
set_option linter.unusedSimpArgs false
set_option maxRecDepth 100000
set_option maxHeartbeats 2000000
namespace Go.Proofs.Ytdghbnkegahdnaa.B
open Go Go.RowKit Go.Proofs

/-- Bytes that are read, as a string. -/
theorem conv_str {P : Program} {w : World} {A : Option Addr} {c : Nat} {l : List UInt8} (h : Rd eB w A c l) (src dst e : TypeId) (hs : P.underlying src = some (.slice e)) (he : P.underlying e = some (.int .u8)) (hd : P.underlying dst = some .string) :
    (convert src dst (.slice A l.length c)).run P w = .ok (.string ⟨l.toArray⟩) w := by
  rcases A with _ | a
  · have hx : l = [] := by
      rcases l with _ | ⟨x, l⟩
      · rfl
      · obtain ⟨ad, h, _⟩ := h.2.2 (by simp)
        cases h
    subst hx
    rw [run_convert_bytes_string w src dst e none _ c hs he hd]
    simp [Conv.bytesToString]
    rfl
  · refine run_convert_bytes_back w src dst e a c l hs he hd (fun j hj => ?_)
    obtain ⟨ad, e1, hc⟩ := h.at1 (u := .int .u8 l[j].toNat) rfl hj rfl
    cases e1
    exact hc
theorem law_once (A : Option Addr) (c : Nat) (b : List UInt8) (w : World) (hr : Rd eB w A c b) :
    Calls Try.prog 4 #[.slice A b.length c] w fun e w' => e = .returned (.bool true) ∧ Ex w w' := by
  by_cases h5 : 5000 < b.length
  · go_enter Try.func4, Try.ntmps4
    go_wp2_with (go_at_call 15; refine (law09_awake _).mono ?_; rintro e w1 ⟨rfl, hx1⟩)
    go_ret
    exact ⟨rfl, hx1⟩
  · obtain ⟨er, her⟩ : ∃ er, er = (decN b).2 := ⟨_, rfl⟩
    obtain ⟨s, hs⟩ : ∃ s, s = (decN b).1 := ⟨_, rfl⟩
    have HEr := Lib.hid her
    have HS := Lib.hid hs
    have hbl : b.length ≤ 1000000000000 := by omega
    by_cases h0 : er = 0
    · have hd := decN_ok (b := b) (s := s) (by rw [hs, ← h0, her])
      have hsl : s.st.l.length ≤ 4000000000000 := by have := (mayS_all ((mayN_iff s).1 hd.1).2.2.1).2.1; omega
      have HM := Lib.hid hd.1
      have HE := Lib.hid hd.2
      subst h0
      clear hd hs her
      go_enter Try.func4, Try.ntmps4
      go_wp2_with (first
        | (go_at_call 15; refine (law09_awake _).mono ?_; rintro e w1 ⟨rfl, hx1⟩)
        | (go_at_call 16; go_loud (refine (snap_Decode A c b _ (hr.ex hx1) hbl).mono ?_); rintro e w2 ⟨B, d, C, c2, rfl, hrB, hrC, -, -, hx2⟩; rw [← HEr.out, ← HS.out]; rw [← HS.out] at hrB hrC)
        | (go_at_call 17; go_loud (refine (snap_Encode s B d C c2 _ (hrB.ex ((Ex.refl _).alloc _)) hsl (hrC.ex ((Ex.refl _).alloc _))).mono ?_); rintro e w4 ⟨v4, rfl, ho4, hx4⟩; rw [if_pos HM.out] at ho4 ⊢; rw [HE.out] at ho4; (obtain ⟨A4, c4, rfl, hr4⟩ := ho4.rd); have hx24 : Ex w2 w4 := ((Ex.refl w2).alloc _).trans hx4; have hrb4 := ((hr.ex hx1).ex hx2).ex hx24; have cv1 := conv_str (P := Try.prog) hr4 26 9 5 Try.underlying26 Try.underlying5 Try.underlying9; have cv2 := conv_str (P := Try.prog) hrb4 26 9 5 Try.underlying26 Try.underlying5 Try.underlying9; (obtain ⟨q0, -⟩ := hx4.both (new_cell (u := .int .i64 s.index) w2 #[.int .i64 s.index, .int .i64 s.st.kind, .slice B s.st.l.length d, .bool s.st.sealed, .int .i64 s.st.to, .slice C s.tab.length c2] 44 0 rfl)); (obtain ⟨q1, -⟩ := hx4.both (new_cell (u := .int .i64 s.st.kind) w2 #[.int .i64 s.index, .int .i64 s.st.kind, .slice B s.st.l.length d, .bool s.st.sealed, .int .i64 s.st.to, .slice C s.tab.length c2] 44 1 rfl)); (obtain ⟨q2, -⟩ := hx4.both (new_cell (u := .slice B s.st.l.length d) w2 #[.int .i64 s.index, .int .i64 s.st.kind, .slice B s.st.l.length d, .bool s.st.sealed, .int .i64 s.st.to, .slice C s.tab.length c2] 44 2 rfl)); (obtain ⟨q3, -⟩ := hx4.both (new_cell (u := .bool s.st.sealed) w2 #[.int .i64 s.index, .int .i64 s.st.kind, .slice B s.st.l.length d, .bool s.st.sealed, .int .i64 s.st.to, .slice C s.tab.length c2] 44 3 rfl)); (obtain ⟨q4, -⟩ := hx4.both (new_cell (u := .int .i64 s.st.to) w2 #[.int .i64 s.index, .int .i64 s.st.kind, .slice B s.st.l.length d, .bool s.st.sealed, .int .i64 s.st.to, .slice C s.tab.length c2] 44 4 rfl)); (obtain ⟨q5, -⟩ := hx4.both (new_cell (u := .slice C s.tab.length c2) w2 #[.int .i64 s.index, .int .i64 s.st.kind, .slice B s.st.l.length d, .bool s.st.sealed, .int .i64 s.st.to, .slice C s.tab.length c2] 44 5 rfl)))
        | (go_at_call 18; go_loud (refine (snap_May s B d C c2 _ (hrB.ex hx24) hsl (hrC.ex hx24)).mono ?_); rintro e w5 ⟨rfl, hx5⟩; rw [HM.out]))
      go_ret
      exact ⟨rfl, ((hx1.trans hx2).trans hx24).trans hx5⟩
    · have h0b : (er != 0) = true := by rw [bne_iff_ne]; exact h0
      clear h0 hs her
      go_enter Try.func4, Try.ntmps4
      go_wp2_with (first
        | (go_at_call 15; refine (law09_awake _).mono ?_; rintro e w1 ⟨rfl, hx1⟩)
        | (go_at_call 16; go_loud (refine (snap_Decode A c b _ (hr.ex hx1) hbl).mono ?_); rintro e w2 ⟨B, d, C, c2, rfl, hrB, hrC, -, -, hx2⟩; rw [← HEr.out]))
      go_ret
      exact ⟨rfl, (hx1.trans hx2).alloc _⟩
end Go.Proofs.Ytdghbnkegahdnaa.B
