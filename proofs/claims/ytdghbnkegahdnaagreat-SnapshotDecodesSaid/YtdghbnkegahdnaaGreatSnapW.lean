/- The walks of package snapshot, first part. -/
import Derived.Test.YtdghbnkegahdnaaGreatCodecW
import Derived.Test.YtdghbnkegahdnaaGreatFrameW
import Derived.Test.YtdghbnkegahdnaaGreatSnap
set_option linter.unusedVariables false
set_option linter.unusedSimpArgs false
set_option maxRecDepth 100000
set_option maxHeartbeats 1000000
namespace Go.Proofs.YtdghbnkegahdnaaGreat.B
open Go Go.RowKit Go.Proofs

/-- How an entry lies in memory. -/
def eE : Enc Ent := ⟨3, fun e => [.int .i64 e.proc, .int .i64 e.seq, .int .i64 e.resp], fun _ => rfl, fun x u hu => by
  simp only [List.mem_cons, List.not_mem_nil, or_false] at hu; rcases hu with rfl | rfl | rfl <;> rfl, by decide⟩
theorem six (a b c d e f : Bool) : a = false ∨ (a = true ∧ b = false) ∨ (a = true ∧ b = true ∧ c = false) ∨ (a = true ∧ b = true ∧ c = true ∧ d = false) ∨ (a = true ∧ b = true ∧ c = true ∧ d = true ∧ e = false) ∨ (a = true ∧ b = true ∧ c = true ∧ d = true ∧ e = true ∧ f = false) ∨ (a = true ∧ b = true ∧ c = true ∧ d = true ∧ e = true ∧ f = true) := by
  cases a <;> cases b <;> cases c <;> cases d <;> cases e <;> cases f <;> simp
theorem snap_fits (x : Ent) (w : World) : Calls Tryz.prog 114 #[.agg #[.int .i64 x.proc, .int .i64 x.seq, .int .i64 x.resp]] w fun e w' => e = .returned (.bool (fitsE x)) ∧ Ex w w' := by
  obtain ⟨p, s, r⟩ := x
  have hs0 : fitsE ⟨p, s, r⟩ = (decide (0 ≤ p) && decide (p ≤ 64) && decide (0 ≤ s) && decide (s < 4611686018427387904) && decide (-1125899906842624 ≤ r) && decide (r ≤ 1125899906842624)) := rfl
  simp only
  rcases six (decide (0 ≤ p)) (decide (p ≤ 64)) (decide (0 ≤ s)) (decide (s < 4611686018427387904)) (decide (-1125899906842624 ≤ r)) (decide (r ≤ 1125899906842624)) with h1 | ⟨h1, h2⟩ | ⟨h1, h2, h3⟩ | ⟨h1, h2, h3, h4⟩ | ⟨h1, h2, h3, h4, h5⟩ | ⟨h1, h2, h3, h4, h5, h6⟩ | ⟨h1, h2, h3, h4, h5, h6⟩
  all_goals
    have hs : Hid (fitsE ⟨p, s, r⟩ = if (decide (0 ≤ p) && decide (p ≤ 64) && decide (0 ≤ s) && decide (s < 4611686018427387904) && decide (-1125899906842624 ≤ r) && decide (r ≤ 1125899906842624)) = true then true else false) := by
      rw [Hid, hs0]; cases (decide (0 ≤ p) && decide (p ≤ 64) && decide (0 ≤ s) && decide (s < 4611686018427387904) && decide (-1125899906842624 ≤ r) && decide (r ≤ 1125899906842624)) <;> rfl
    clear hs0
    simp only [*, Bool.false_and, Bool.true_and, Bool.and_self, if_true, reduceCtorEq, if_false] at hs
    go_enter Tryz.func114, Tryz.ntmps114
    go_wp2_with fail
    go_ret
    exact ⟨rbool hs.out.symm, (Ex.refl w).alloc _⟩

theorem add_add (ad : Addr) (n i : Nat) (hi : 0 < i) : ad.add (n + i) = ⟨(ad.add n).block, (ad.add n).off + i, none⟩ := by
  unfold Addr.add
  rw [if_neg (by omega)]
  split
  · subst n; simp
  · simp [Nat.add_assoc]
/-- An entry that lies somewhere. -/
def EntAt (w : World) (p : Addr) (x : Ent) : Prop := w.cell? p = some (.int .i64 x.proc) ∧ w.cell? ⟨p.block, p.off + 1, none⟩ = some (.int .i64 x.seq) ∧ w.cell? ⟨p.block, p.off + 2, none⟩ = some (.int .i64 x.resp)
theorem entAt {w : World} {A : Option Addr} {c : Nat} {t : List Ent} (h : Rd eE w A c t) {k : Nat} (hk : k < t.length) : ∃ ad, A = some ad ∧ EntAt w (ad.add (k * 3)) t[k] := by
  obtain ⟨ad, e, hc⟩ := h.at k hk
  refine ⟨ad, e, hc 0 _ rfl, ?_, ?_⟩
  · rw [← add_add ad (k * 3) 1 (by decide)]; exact hc 1 _ rfl
  · rw [← add_add ad (k * 3) 2 (by decide)]; exact hc 2 _ rfl

theorem snap_table (A : Option Addr) (c : Nat) (t : List Ent) (w : World) (hr : Rd eE w A c t) :
    Calls Tryz.prog 71 #[.slice A t.length c] w fun e w' => e = .returned (.bool (tabA (-1) t)) ∧ Ex w w' := by
  have hl63 := hr.lt63
  go_enter Tryz.func71, Tryz.ntmps71
  go_wp2_with fail
  go_loopw [7] (fun i wr => ∃ (k : Nat) (last : Int), i = .int .i64 k ∧ k ≤ t.length ∧ Ex w wr ∧ (0 < k → ∃ x, t[k - 1]? = some x ∧ x.proc = last) ∧ (k = 0 → last = -1) ∧ Hid (tabA (-1) t = tabA last (t.drop k))) (fun i _ => (t.length - intOf i).toNat)
  case atStart => exact ⟨0, -1, rfl, by omega, Ex.refl w, by simp, fun _ => rfl, rfl⟩
  case round =>
    obtain ⟨k, last, rfl, hk, hx, hl, hl0, he⟩ := hrel
    by_cases hlt : k < t.length
    · have hlt2 : (k : Int) < (t.length : Int) := by omega
      obtain ⟨ad, rfl, hc⟩ := entAt (hr.ex hx) hlt
      obtain ⟨x, hx0⟩ : ∃ x, x = t[k] := ⟨_, rfl⟩
      have hst : tabA (-1) t = if fitsE x = false ∨ x.proc ≤ last then false else tabA x.proc (t.drop (k + 1)) := by
        have h := he.out
        rw [← List.getElem_cons_drop (h := hlt), tabA, ← hx0] at h
        exact h
      rw [← hx0] at hc
      obtain ⟨c0, c1, c2⟩ := hc
      have Hx : Hid (t[k]? = some x) := by rw [Hid, hx0]; exact List.getElem?_eq_getElem hlt
      cases hf : fitsE x with
      | false =>
          have hs : Hid (tabA (-1) t = false) := by rw [Hid, hst, if_pos (.inl hf)]
          have Hf := Lib.hid hf
          rcases Nat.eq_zero_or_pos k with h0 | h0
          · have hlt3 : ¬ 0 < k := by omega
            clear hst he hf hl hl0 hx0 h0
            go_wp2_with fail
            obtain ⟨k0, _⟩ := new_cell wr #[.int .i64 x.proc, .int .i64 x.seq, .int .i64 x.resp] 72 0 rfl
            obtain ⟨k1, _⟩ := new_cell wr #[.int .i64 x.proc, .int .i64 x.seq, .int .i64 x.resp] 72 1 rfl
            obtain ⟨k2, _⟩ := new_cell wr #[.int .i64 x.proc, .int .i64 x.seq, .int .i64 x.resp] 72 2 rfl
            have l0 := lat_cell k0
            have l1 := lat_cell k1
            have l2 := lat_cell k2
            clear k0 k1 k2
            refine wp_region_ex (by kernel_rfl) (by kernel_rfl) ?_
            repeat (go_big_quiet_step ((go_at_call 114; exact lat_call (v := .bool false) (fun W _ => by rw [← Hf.out]; exact snap_fits x W))))
            refine wpQuiet_nil ?_
            rintro _ ⟨y, rfl⟩
            have hxy : Ex w y.w' := (hx.alloc _).trans y.ex
            go_wp2_with fail
            go_ret
            exact ⟨rbool hs.out.symm, hxy⟩
          · have hlt3 : 0 < k := h0
            clear hst he hf hl hl0 hx0
            go_wp2_with fail
            obtain ⟨k0, _⟩ := new_cell wr #[.int .i64 x.proc, .int .i64 x.seq, .int .i64 x.resp] 72 0 rfl
            obtain ⟨k1, _⟩ := new_cell wr #[.int .i64 x.proc, .int .i64 x.seq, .int .i64 x.resp] 72 1 rfl
            obtain ⟨k2, _⟩ := new_cell wr #[.int .i64 x.proc, .int .i64 x.seq, .int .i64 x.resp] 72 2 rfl
            have l0 := lat_cell k0
            have l1 := lat_cell k1
            have l2 := lat_cell k2
            clear k0 k1 k2
            refine wp_region_ex (by kernel_rfl) (by kernel_rfl) ?_
            repeat (go_big_quiet_step ((go_at_call 114; exact lat_call (v := .bool false) (fun W _ => by rw [← Hf.out]; exact snap_fits x W))))
            refine wpQuiet_nil ?_
            rintro _ ⟨y, rfl⟩
            have hxy : Ex w y.w' := (hx.alloc _).trans y.ex
            go_wp2_with fail
            go_ret
            exact ⟨rbool hs.out.symm, hxy⟩
      | true =>
          have Hf := Lib.hid hf
          rcases Nat.eq_zero_or_pos k with h0 | h0
          · have hla := hl0 h0
            have hlt3 : ¬ 0 < k := by omega
            have hp := ((fitsE_iff x).1 hf).1
            have hs : Hid (tabA (-1) t = tabA x.proc (t.drop (k + 1))) := by rw [Hid, hst, if_neg (by rw [hf]; simp; omega)]
            clear hst he hf hl hl0 hx0 h0
            go_wp2_with fail
            obtain ⟨k0, _⟩ := new_cell wr #[.int .i64 x.proc, .int .i64 x.seq, .int .i64 x.resp] 72 0 rfl
            obtain ⟨k1, _⟩ := new_cell wr #[.int .i64 x.proc, .int .i64 x.seq, .int .i64 x.resp] 72 1 rfl
            obtain ⟨k2, _⟩ := new_cell wr #[.int .i64 x.proc, .int .i64 x.seq, .int .i64 x.resp] 72 2 rfl
            have l0 := lat_cell k0
            have l1 := lat_cell k1
            have l2 := lat_cell k2
            clear k0 k1 k2
            refine wp_region_ex (by kernel_rfl) (by kernel_rfl) ?_
            repeat (go_big_quiet_step ((go_at_call 114; exact lat_call (v := .bool true) (fun W _ => by rw [← Hf.out]; exact snap_fits x W))))
            refine wpQuiet_nil ?_
            rintro _ ⟨y, rfl⟩
            have hxy : Ex w y.w' := (hx.alloc _).trans y.ex
            go_wp2_with fail
            go_round
            case rel => exact ⟨k + 1, x.proc, rfl, by omega, hxy, fun _ => ⟨x, by rw [Nat.add_sub_cancel]; exact Hx.out, rfl⟩, fun h => by omega, hs⟩
            case measure => simp [intOf]; omega
          · have hlt3 : 0 < k := h0
            obtain ⟨z, hz, hzl⟩ := hl h0
            have hk1 : k - 1 < t.length := by omega
            obtain ⟨ad', hsome, hd⟩ := entAt (hr.ex hx) hk1
            have gw : wrap64 ((k : Int) - 1) = ((k - 1 : Nat) : Int) := by have := hr.lt63; unfold wrap64; omega
            cases hsome
            have hze : t[k - 1] = z := by rw [List.getElem?_eq_getElem hk1] at hz; exact Option.some.inj hz
            rw [hze] at hd
            obtain ⟨d0, _, _⟩ := hd
            rw [hzl] at d0
            clear hze hz hzl
            by_cases hcmp : x.proc ≤ last
            · have hs : Hid (tabA (-1) t = false) := by rw [Hid, hst, if_pos (.inr hcmp)]
              clear hst he hf hl hl0 hx0
              go_wp2_with fail
              obtain ⟨k0, _⟩ := new_cell wr #[.int .i64 x.proc, .int .i64 x.seq, .int .i64 x.resp] 72 0 rfl
              obtain ⟨k1, _⟩ := new_cell wr #[.int .i64 x.proc, .int .i64 x.seq, .int .i64 x.resp] 72 1 rfl
              obtain ⟨k2, _⟩ := new_cell wr #[.int .i64 x.proc, .int .i64 x.seq, .int .i64 x.resp] 72 2 rfl
              have l0 := lat_cell k0
              have l1 := lat_cell k1
              have l2 := lat_cell k2
              have l3 := lat_cell (((Ex.refl wr).alloc (.cells #[.int .i64 x.proc, .int .i64 x.seq, .int .i64 x.resp] 72)).cell d0)
              clear k0 k1 k2
              refine wp_region_ex (by kernel_rfl) (by kernel_rfl) ?_
              repeat (go_big_quiet_step ((go_at_call 114; exact lat_call (v := .bool true) (fun W _ => by rw [← Hf.out]; exact snap_fits x W))))
              refine wpQuiet_nil ?_
              rintro _ ⟨y, rfl⟩
              have hxy : Ex w y.w' := (hx.alloc _).trans y.ex
              go_wp2_with fail
              go_ret
              exact ⟨rbool hs.out.symm, hxy⟩
            · have hs : Hid (tabA (-1) t = tabA x.proc (t.drop (k + 1))) := by rw [Hid, hst, if_neg (by rw [hf]; simp; omega)]
              clear hst he hf hl hl0 hx0
              go_wp2_with fail
              obtain ⟨k0, _⟩ := new_cell wr #[.int .i64 x.proc, .int .i64 x.seq, .int .i64 x.resp] 72 0 rfl
              obtain ⟨k1, _⟩ := new_cell wr #[.int .i64 x.proc, .int .i64 x.seq, .int .i64 x.resp] 72 1 rfl
              obtain ⟨k2, _⟩ := new_cell wr #[.int .i64 x.proc, .int .i64 x.seq, .int .i64 x.resp] 72 2 rfl
              have l0 := lat_cell k0
              have l1 := lat_cell k1
              have l2 := lat_cell k2
              have l3 := lat_cell (((Ex.refl wr).alloc (.cells #[.int .i64 x.proc, .int .i64 x.seq, .int .i64 x.resp] 72)).cell d0)
              clear k0 k1 k2
              refine wp_region_ex (by kernel_rfl) (by kernel_rfl) ?_
              repeat (go_big_quiet_step ((go_at_call 114; exact lat_call (v := .bool true) (fun W _ => by rw [← Hf.out]; exact snap_fits x W))))
              refine wpQuiet_nil ?_
              rintro _ ⟨y, rfl⟩
              have hxy : Ex w y.w' := (hx.alloc _).trans y.ex
              go_wp2_with fail
              go_round
              case rel => exact ⟨k + 1, x.proc, rfl, by omega, hxy, fun _ => ⟨x, by rw [Nat.add_sub_cancel]; exact Hx.out, rfl⟩, fun h => by omega, hs⟩
              case measure => simp [intOf]; omega
    · have hlt2 : ¬ (k : Int) < (t.length : Int) := by omega
      have hs : Hid (tabA (-1) t = true) := by
        have h := he.out
        rw [List.drop_eq_nil_of_le (by omega)] at h
        exact h
      clear he hl hl0
      go_wp2_with fail
      go_ret
      exact ⟨rbool hs.out.symm, hx⟩

theorem four (a b c d : Bool) : a = false ∨ (a = true ∧ b = false) ∨ (a = true ∧ b = true ∧ c = false) ∨ (a = true ∧ b = true ∧ c = true ∧ d = false) ∨ (a = true ∧ b = true ∧ c = true ∧ d = true) := by
  cases a <;> cases b <;> cases c <;> cases d <;> simp
/-- A snapshot as a value, and what it leads to. -/
def snV (s : Snp) (A : Option Addr) (c : Nat) (B : Option Addr) (d : Nat) : Array Value := #[.int .i64 s.index, .int .i64 s.st.kind, .slice A s.st.l.length c, .bool s.st.sealed, .int .i64 s.st.to, .slice B s.tab.length d]
theorem snap_May (s : Snp) (A : Option Addr) (c : Nat) (B : Option Addr) (d : Nat) (w : World) (hr : Rd eI w A c s.st.l) (hl : s.st.l.length ≤ 4000000000000) (ht : Rd eE w B d s.tab) :
    Calls Tryz.prog 35 #[.agg #[.int .i64 s.index, .int .i64 s.st.kind, .slice A s.st.l.length c, .bool s.st.sealed, .int .i64 s.st.to, .slice B s.tab.length d]] w fun e w' => e = .returned (.bool (mayN s)) ∧ Ex w w' := by
  obtain ⟨ix, ⟨kind, l, sd, tt⟩, t⟩ := s
  simp only at hr hl ht ⊢
  have hs0 : mayN ⟨ix, ⟨kind, l, sd, tt⟩, t⟩ = (decide (0 ≤ ix) && decide (ix < 4611686018427387904) && mayS ⟨kind, l, sd, tt⟩ && tabA (-1) t) := rfl
  have hx0 := (Ex.refl w).alloc (.cells #[.int .i64 ix, .int .i64 kind, .slice A l.length c, .bool sd, .int .i64 tt, .slice B t.length d] 39)
  obtain ⟨k5, _⟩ := new_cell w #[.int .i64 ix, .int .i64 kind, .slice A l.length c, .bool sd, .int .i64 tt, .slice B t.length d] 39 5 rfl
  have K5 := Lib.hid k5; clear k5
  have hr0 := hr.ex hx0
  have ht0 := ht.ex hx0
  rcases four (decide (0 ≤ ix)) (decide (ix < 4611686018427387904)) (mayS ⟨kind, l, sd, tt⟩) (tabA (-1) t) with h1 | ⟨h1, h2⟩ | ⟨h1, h2, h3⟩ | ⟨h1, h2, h3, h4⟩ | ⟨h1, h2, h3, h4⟩
  · have hs : Hid (mayN ⟨ix, ⟨kind, l, sd, tt⟩, t⟩ = false) := by rw [Hid, hs0, h1]; simp
    clear hs0
    go_enter Tryz.func35, Tryz.ntmps35
    go_wp2_with fail
    go_ret
    exact ⟨rbool hs.out.symm, hx0⟩
  · have hs : Hid (mayN ⟨ix, ⟨kind, l, sd, tt⟩, t⟩ = false) := by rw [Hid, hs0, h1, h2]; simp
    clear hs0
    go_enter Tryz.func35, Tryz.ntmps35
    go_wp2_with fail
    go_ret
    exact ⟨rbool hs.out.symm, hx0⟩
  · have hs : Hid (mayN ⟨ix, ⟨kind, l, sd, tt⟩, t⟩ = false) := by rw [Hid, hs0, h1, h2, h3]; simp
    have H3 := Lib.hid h3
    clear hs0 h3
    go_enter Tryz.func35, Tryz.ntmps35
    go_wp2_with (go_at_call 70; go_loud (refine (objs_May ⟨kind, l, sd, tt⟩ A c _ hr0 hl).mono ?_); rintro e w1 ⟨rfl, hx1⟩; rw [H3.out])
    go_ret
    exact ⟨rbool hs.out.symm, hx0.trans hx1⟩
  all_goals
    have hs := Lib.hid hs0
    have H3 := Lib.hid h3
    have H4 := Lib.hid h4
    rw [h1, h2, h3, h4] at hs
    clear hs0 h3 h4
    go_enter Tryz.func35, Tryz.ntmps35
    go_wp2_with (first | (go_at_call 70; go_loud (refine (objs_May ⟨kind, l, sd, tt⟩ A c _ hr0 hl).mono ?_); rintro e w1 ⟨rfl, hx1⟩; rw [H3.out]; have k5 := hx1.cell K5.out) | (go_at_call 71; go_loud (refine (snap_table B d t _ (ht0.ex hx1)).mono ?_); rintro e w2 ⟨rfl, hx2⟩; rw [H4.out]))
    go_ret
    exact ⟨rbool hs.out.symm, hx0.trans (hx1.trans hx2)⟩

/-! ### as bytes -/
theorem snap_framed (A : Option Addr) (c : Nat) (b : List UInt8) (w : World) (hr : Rd eB w A c b) :
    Calls Tryz.prog 62 #[.slice A b.length c] w fun e w' => ∃ v, e = .returned v ∧ Own eB 5 w' w.heap.size v (encF b) ∧ Ex w w' := by
  go_enter Tryz.func62, Tryz.ntmps62
  go_wp2_with (go_at_call 81; go_loud (refine (frame_Encode A c b _ hr).mono ?_); rintro e w1 ⟨v1, rfl, ho1, hx1⟩)
  go_ret
  exact ⟨v1, rfl, ho1, hx1⟩
theorem snap_whole (s : Snp) (A : Option Addr) (c : Nat) (B : Option Addr) (d : Nat) (w : World) (hr : Rd eI w A c s.st.l) (hl : s.st.l.length ≤ 4000000000000) (ht : Rd eE w B d s.tab) (hall : ∀ e ∈ s.tab, fitsE e = true) (htl : s.tab.length ≤ 1000000000000) :
    Calls Tryz.prog 61 #[.agg #[.int .i64 s.index, .int .i64 s.st.kind, .slice A s.st.l.length c, .bool s.st.sealed, .int .i64 s.st.to, .slice B s.tab.length d]] w fun e w' => ∃ v, e = .returned v ∧ Own eB 5 w' w.heap.size v (wholeN s) ∧ Ex w w' := by
  have hxlen : (stB s.st).length ≤ 1310 := by
    unfold stB; split
    · rename_i h; exact encS_len _ h
    · simp
  have hw0 : wholeN s = put (stB s.st).length ++ stB s.st ++ put s.tab.length ++ s.tab.flatMap entB := rfl
  have hsb : stB s.st = if mayS s.st = true then encS s.st else [] := rfl
  obtain ⟨x, hx⟩ : ∃ x, x = stB s.st := ⟨_, rfl⟩
  rw [← hx] at hxlen hw0
  have Hx : Hid (x = if mayS s.st = true then encS s.st else []) := hx.trans hsb
  have Hw := Lib.hid hw0
  clear hx hsb hw0
  obtain ⟨ix, ⟨kind, l, sd, tt⟩, t⟩ := s
  simp only at hr hl ht hall htl Hx Hw ⊢
  have Hall := Lib.hid hall; clear hall
  have hx0 := (Ex.refl w).alloc (.cells #[.int .i64 ix, .int .i64 kind, .slice A l.length c, .bool sd, .int .i64 tt, .slice B t.length d] 39)
  obtain ⟨k5, _⟩ := new_cell w #[.int .i64 ix, .int .i64 kind, .slice A l.length c, .bool sd, .int .i64 tt, .slice B t.length d] 39 5 rfl
  have K5 := Lib.hid k5; clear k5
  have hr0 := hr.ex hx0
  have hp1 := put_len (x.length : Int)
  have hp2 := put_len (t.length : Int)
  have hnn : ∀ k, (Value.slice none 0 0).ownBlock = some k → k ≠ w.heap.size := fun k hk => by cases hk
  go_enter Tryz.func61, Tryz.ntmps61
  go_wp2_with (go_at_call 103; go_loud (refine (codec_EncodeState ⟨kind, l, sd, tt⟩ A c _ hr0 hl).mono ?_); rintro e w1 ⟨v1, rfl, ho1, hx1⟩; rw [← Hx.out] at ho1; generalize (if mayS ⟨kind, l, sd, tt⟩ = true then (0 : Int) else 1) = er; (obtain ⟨A1, c1, rfl, hr1⟩ := ho1.rd))
  have k5 := hx1.cell K5.out
  have hb1 : w.heap.size < w1.heap.size := World.block_lt_of_cell? w1 _ k5
  have hxx := hx0.trans hx1
  have hled : w.heap.size ≤ w1.drew.heap.size := hxx.le
  have g2 : (put x.length ++ x).length ≤ 70000000000000 := by rw [List.length_append]; omega
  have g3 : ((put x.length).length + x.length) * 1 ≤ 140737488355328 := by omega
  go_region_held3 (fun W => W.cell? ⟨w.heap.size, 5, none⟩ = some (.slice B t.length d))
    (first
      | go_keep
      | assumption)
    (first
      | (go_at_call_of 56 x; (refine (num_Put w.heap.size _ [] x.length _ (Own.nil _ _ _ _) hled (by decide)).mono ?_); rintro e w2 ⟨v2, rfl, ha2⟩; have hx2 : Ex w1 w2 := ha2.ex (Ex.refl w1).drew (fun k hk => by cases hk); have hne2 := ha2.ne hb1 hnn; have hS2 := hx2.cell k5; rw [List.nil_append] at ha2)
      | (refine own_appR_h eB w.heap.size rfl (.tmp 16) (.tmp 17) 22 5 (.int .u8 0) 1 rfl Tryz.underlying22 infoB rfl (by decide) v2 (put x.length) x A1 c1 rfl rfl ha2.own (hr1.ex hx2) (Nat.le_trans hxx.le hx2.le) g3 ?_; intro v3 w3 ha3; have hne3 := ha3.ne (Nat.lt_of_lt_of_le hb1 hx2.le) hne2; have hS3 := ha3.cell (p := ⟨w.heap.size, 5, none⟩) hS2 hne2)
      | (go_at_call_of 56 t; (refine (num_Put w.heap.size v3 (put x.length ++ x) t.length _ ha3.own (Nat.le_trans hxx.le (Nat.le_trans hx2.le ha3.gb.size)) g2).mono ?_); rintro e w4 ⟨v4, rfl, ha4⟩; have hS4 := ha4.cell (p := ⟨w.heap.size, 5, none⟩) hS3 hne3))
  go_wp2_with fail
  have hx4 : Ex w w4 := ha4.ex (ha3.ex (hxx.trans hx2) (fun k hk => (ha2.own.lt k hk).1)) (fun k hk => (ha3.own.lt k hk).1)
  have ho4 := ha4.own
  clear ha4 ha3 ha2 hS4 hS3 hS2 k5
  obtain ⟨hd, hhd⟩ : ∃ hd, hd = put x.length ++ x ++ put (t.length : Int) := ⟨_, rfl⟩
  rw [← hhd] at ho4
  have hhl : hd.length ≤ 2000 := by rw [hhd]; simp only [List.length_append]; omega
  have Hhd := Lib.hid hhd; clear hhd
  go_loopw [5, 26] (fun v i wr => ∃ k : Nat, i = .int .i64 k ∧ k ≤ t.length ∧ Ex w wr ∧ Own eB 5 wr w.heap.size v (hd ++ (t.take k).flatMap entB)) (fun _ i _ => (t.length - intOf i).toNat)
  case atStart => exact ⟨0, rfl, by omega, hx4, by simpa using ho4⟩
  case round =>
    obtain ⟨k, rfl, hk, hx, ho⟩ := hrel
    by_cases hlt : k < t.length
    · obtain ⟨ad, rfl, hc⟩ := entAt (ht.ex hx) hlt
      have htk := entsB_take t k hlt
      have hfe := (fitsE_iff _).1 (Hall.out t[k] (List.getElem_mem hlt))
      have hlen := entsB_len (t.take k) (fun e he => Hall.out e (List.mem_of_mem_take he))
      obtain ⟨z, hz⟩ : ∃ z, z = t[k] := ⟨_, rfl⟩
      rw [← hz] at hc htk hfe
      obtain ⟨c0, c1, c2⟩ := hc
      have Htk := Lib.hid htk
      obtain ⟨f1, f2, f3, f4, f5, f6⟩ := hfe
      clear htk hz
      obtain ⟨b0, hb0⟩ : ∃ b0, b0 = hd ++ (t.take k).flatMap entB := ⟨_, rfl⟩
      rw [← hb0] at ho
      have hbl : b0.length ≤ 40000000000000 := by rw [hb0, List.length_append]; rw [List.length_take] at hlen; omega
      have Hb0 := Lib.hid hb0
      clear hb0 hlen
      have hp1 := put_len z.proc
      have hp2 := put_len z.seq
      have hlv := hx.le
      have g5 : (b0 ++ put z.proc).length ≤ 70000000000000 := by rw [List.length_append]; omega
      have g6 : (b0 ++ put z.proc ++ put z.seq).length ≤ 70000000000000 := by rw [List.length_append, List.length_append]; omega
      go_wp2_with fail
      obtain ⟨W, hW⟩ : ∃ W, W = wr.alloc (.cells #[.int .i64 z.proc, .int .i64 z.seq, .int .i64 z.resp] 72) := ⟨_, rfl⟩
      have hxW : Ex w W := by rw [hW]; exact hx.alloc _
      have hoW : Own eB 5 W w.heap.size u5 b0 := by rw [hW]; exact ho.ex ((Ex.refl wr).alloc _)
      have hn : wr.heap.size < W.heap.size := by rw [hW]; simp
      have hnv : ∀ k, u5.ownBlock = some k → k ≠ wr.heap.size := fun k hk => Nat.ne_of_lt (ho.lt k hk).2
      have s0 : W.cell? ⟨wr.heap.size, 0, none⟩ = some (.int .i64 z.proc) := by rw [hW]; exact (new_cell _ _ _ 0 rfl).1
      have s1 : W.cell? ⟨wr.heap.size, 1, none⟩ = some (.int .i64 z.seq) := by rw [hW]; exact (new_cell _ _ _ 1 rfl).1
      have s2 : W.cell? ⟨wr.heap.size, 2, none⟩ = some (.int .i64 z.resp) := by rw [hW]; exact (new_cell _ _ _ 2 rfl).1
      rw [← hW]
      clear hW
      have hoD := hoW.ex (Ex.refl W).drew
      have hleD : w.heap.size ≤ W.drew.heap.size := hxW.le
      have g4 : b0.length ≤ 70000000000000 := by omega
      have r1 : -9223372036854775808 ≤ z.resp := by omega
      have r2 : z.resp ≤ 9223372036854775807 := by omega
      go_region_held3 (fun W => W.cell? ⟨wr.heap.size, 0, none⟩ = some (.int .i64 z.proc) ∧ W.cell? ⟨wr.heap.size, 1, none⟩ = some (.int .i64 z.seq) ∧ W.cell? ⟨wr.heap.size, 2, none⟩ = some (.int .i64 z.resp))
        (first
          | go_keep
          | assumption)
        (first
          | (go_at_call_of 56 (z.proc); (refine (num_Put w.heap.size u5 b0 z.proc _ hoD hleD g4).mono ?_); rintro e w2 ⟨v2, rfl, ha2⟩; have hne2 := ha2.ne (n := wr.heap.size) hn hnv; have hS2 := And.intro (ha2.cell (p := ⟨wr.heap.size, 0, none⟩) s0 hnv) (And.intro (ha2.cell (p := ⟨wr.heap.size, 1, none⟩) s1 hnv) (ha2.cell (p := ⟨wr.heap.size, 2, none⟩) s2 hnv)))
          | (go_at_call_of 56 (z.seq); (refine (num_Put w.heap.size v2 (b0 ++ put z.proc) z.seq _ ha2.own (Nat.le_trans hleD ha2.gb.size) g5).mono ?_); rintro e w3 ⟨v3, rfl, ha3⟩; have hne3 := ha3.ne (n := wr.heap.size) (Nat.lt_of_lt_of_le hn ha2.gb.size) hne2; have hS3 := And.intro (ha3.cell (p := ⟨wr.heap.size, 0, none⟩) hS2.1 hne2) (And.intro (ha3.cell (p := ⟨wr.heap.size, 1, none⟩) hS2.2.1 hne2) (ha3.cell (p := ⟨wr.heap.size, 2, none⟩) hS2.2.2 hne2)))
          | (go_at_call 104; (refine (num_PutSigned w.heap.size v3 (b0 ++ put z.proc ++ put z.seq) z.resp _ r1 r2 ha3.own (Nat.le_trans hleD (Nat.le_trans ha2.gb.size ha3.gb.size)) g6).mono ?_); rintro e w4 ⟨v4, rfl, ha4⟩; have hS4 := And.intro (ha4.cell (p := ⟨wr.heap.size, 0, none⟩) hS3.1 hne3) (And.intro (ha4.cell (p := ⟨wr.heap.size, 1, none⟩) hS3.2.1 hne3) (ha4.cell (p := ⟨wr.heap.size, 2, none⟩) hS3.2.2 hne3))))
      go_wp2_with fail
      have hx4 : Ex w w4 := ha4.ex (ha3.ex (ha2.ex hxW.drew (fun j hj => (hoW.lt j hj).1)) (fun j hj => (ha2.own.lt j hj).1)) (fun j hj => (ha3.own.lt j hj).1)
      go_roundw
      case rel =>
        refine ⟨k + 1, rfl, hlt, hx4, ?_⟩
        have h4 := ha4.own
        have e : hd ++ (t.take (k + 1)).flatMap entB = b0 ++ put z.proc ++ put z.seq ++ putS z.resp := by
          rw [Htk.out, Hb0.out]; simp [entB, List.append_assoc]
        rw [e]; exact h4
      case measure => simp [intOf]; omega
    · have hf : Hid (hd ++ (t.take k).flatMap entB = wholeN ⟨ix, ⟨kind, l, sd, tt⟩, t⟩) := by
        show _ = _
        rw [List.take_of_length_le (by omega), Hhd.out, Hw.out]
      go_wp2_with fail
      go_ret
      exact ⟨_, rfl, by rw [← hf.out]; exact ho, hx⟩
def slLen : Value → Nat
  | .slice _ n _ => n
  | _ => 0
theorem own115 (w : World) (base : Nat) (hb : base ≤ w.heap.size) : Own eB 5 (w.alloc (.cells #[.int .u8 115] 5)) base (.slice (some ⟨w.heap.size, 0, none⟩) 1 1) [115] := Own.lit (E := eB) (e := 5) w base [115] hb (by decide)
theorem snap_Encode (s : Snp) (A : Option Addr) (c : Nat) (B : Option Addr) (d : Nat) (w : World) (hr : Rd eI w A c s.st.l) (hl : s.st.l.length ≤ 4000000000000) (ht : Rd eE w B d s.tab) :
    Calls Tryz.prog 28 #[.agg #[.int .i64 s.index, .int .i64 s.st.kind, .slice A s.st.l.length c, .bool s.st.sealed, .int .i64 s.st.to, .slice B s.tab.length d]] w fun e w' => ∃ v, e = .returned (.tuple #[v, .int .i64 (if mayN s = true then 0 else 1)]) ∧ Own eB 5 w' w.heap.size v (if mayN s = true then encN s else []) ∧ Ex w w' := by
  cases hm : mayN s with
  | false =>
    have Hm := Lib.hid hm; clear hm
    obtain ⟨ix, ⟨kind, l, sd, tt⟩, t⟩ := s
    simp only at hr hl ht ⊢
    have hx0 := (Ex.refl w).alloc (.cells #[.int .i64 ix, .int .i64 kind, .slice A l.length c, .bool sd, .int .i64 tt, .slice B t.length d] 39)
    go_enter Tryz.func28, Tryz.ntmps28
    go_wp2_with (go_at_call 35; go_loud (refine (snap_May ⟨ix, ⟨kind, l, sd, tt⟩, t⟩ A c B d _ (hr.ex hx0) hl (ht.ex hx0)).mono ?_); rintro e w1 ⟨rfl, hx1⟩; rw [Hm.out])
    go_ret2
    exact ⟨_, rfl, Own.nil _ _ _ _, hx0.trans hx1⟩
  | true =>
    have hwl := wholeN_len s hm
    have hmm := (mayN_iff s).1 hm
    have hall := tabA_all _ _ hmm.2.2.2
    have htl : s.tab.length ≤ 1000000000000 := by
      rcases tabA_len s.tab (-1) (by omega) hmm.2.2.2 with h | h
      · rw [h]; simp
      · omega
    have he0 : encN s = encF (manB s.index (wholeN s)) ++ (chunks (wholeN s)).flatMap encF := rfl
    have Hm := Lib.hid hm; clear hm hmm
    have Hall := Lib.hid hall; clear hall
    obtain ⟨y, hy⟩ : ∃ y, y = wholeN s := ⟨_, rfl⟩
    rw [← hy] at hwl he0
    have Hy := Lib.hid hy; clear hy
    obtain ⟨ix, ⟨kind, l, sd, tt⟩, t⟩ := s
    simp only at hr hl ht htl he0 ⊢
    have He := Lib.hid he0; clear he0
    have hx0 := (Ex.refl w).alloc (.cells #[.int .i64 ix, .int .i64 kind, .slice A l.length c, .bool sd, .int .i64 tt, .slice B t.length d] 39)
    have hnew := new_cell w #[.int .i64 ix, .int .i64 kind, .slice A l.length c, .bool sd, .int .i64 tt, .slice B t.length d] 39
    have hC := Lib.hid (And.intro (hnew 0 rfl).1 (And.intro (hnew 1 rfl).1 (And.intro (hnew 2 rfl).1 (And.intro (hnew 3 rfl).1 (And.intro (hnew 4 rfl).1 (hnew 5 rfl).1)))))
    clear hnew
    go_enter Tryz.func28, Tryz.ntmps28
    go_wp2_with (first | (go_at_call 35; go_loud (refine (snap_May ⟨ix, ⟨kind, l, sd, tt⟩, t⟩ A c B d _ (hr.ex hx0) hl (ht.ex hx0)).mono ?_); rintro e w1 ⟨rfl, hx1⟩; rw [Hm.out]; (obtain ⟨q0, q1, q2, q3, q4, q5⟩ := And.intro (hx1.cell hC.out.1) (And.intro (hx1.cell hC.out.2.1) (And.intro (hx1.cell hC.out.2.2.1) (And.intro (hx1.cell hC.out.2.2.2.1) (And.intro (hx1.cell hC.out.2.2.2.2.1) (hx1.cell hC.out.2.2.2.2.2))))))) | (go_at_call 61; go_loud (refine (snap_whole ⟨ix, ⟨kind, l, sd, tt⟩, t⟩ A c B d _ (hr.ex (hx0.trans hx1)) hl (ht.ex (hx0.trans hx1)) Hall.out htl).mono ?_); rintro e w2 ⟨v2, rfl, ho2, hx2⟩; rw [← Hy.out] at ho2; (obtain ⟨A2, c2, rfl, hr2⟩ := ho2.rd)))
    have s0 := hx2.cell q0
    have hb2 : w.heap.size < w2.heap.size := World.block_lt_of_cell? w2 _ s0
    have hxx := (hx0.trans hx1).trans hx2
    clear q0 q1 q2 q3 q4 q5
    have hled : w.heap.size ≤ w2.drew.heap.size := hxx.le
    have hp1 := put_len 3
    have hp2 := put_len ix
    have hp3 := put_len (y.length : Int)
    have g1 : ([115] : List UInt8).length ≤ 70000000000000 := by decide
    have g2 : ([115] ++ put 3).length ≤ 70000000000000 := by simp only [List.length_append, List.length_cons, List.length_nil]; omega
    have g3 : ([115] ++ put 3 ++ put ix).length ≤ 70000000000000 := by simp only [List.length_append, List.length_cons, List.length_nil]; omega
    have hx115 : Ex w2 (w2.alloc (.cells #[.int .u8 115] 5)).drew := ((Ex.refl w2).alloc _).drew
    have hbz : w2.heap.size ≤ (w2.alloc (.cells #[.int .u8 115] 5)).drew.heap.size := hx115.le
    have ho115 := (own115 w2 w2.heap.size (Nat.le_refl _)).ex (Ex.refl _).drew
    have hnn : ∀ k, (Value.slice (some ⟨w2.heap.size, 0, none⟩) 1 1).ownBlock = some k → k ≠ w.heap.size := fun k hk => by cases hk; exact Nat.ne_of_gt hb2
    go_region_held3 (fun W => W.cell? ⟨w.heap.size, 0, none⟩ = some (.int .i64 ix))
      (first
        | go_keep
        | assumption)
      (first
        | (go_at_call_of 56 y; (refine (num_Put w2.heap.size v4 ([115] ++ put 3 ++ put ix) y.length _ ha4.own (Nat.le_trans hbz (Nat.le_trans ha3.gb.size ha4.gb.size)) g3).mono ?_); rintro e w5 ⟨v5, rfl, ha5⟩; have hS5 := ha5.cell (p := ⟨w.heap.size, 0, none⟩) hS4 hne4)
        | (go_at_call_of 56 ix; (refine (num_Put w2.heap.size v3 ([115] ++ put 3) ix _ ha3.own (Nat.le_trans hbz ha3.gb.size) g2).mono ?_); rintro e w4 ⟨v4, rfl, ha4⟩; have hne4 := ha4.ne (n := w.heap.size) (Nat.lt_of_lt_of_le (Nat.lt_of_lt_of_le hb2 hbz) ha3.gb.size) hne3; have hS4 := ha4.cell (p := ⟨w.heap.size, 0, none⟩) hS3 hne3)
        | (go_at_call 56; (refine (num_Put w2.heap.size _ [115] 3 _ ho115 hbz g1).mono ?_); rintro e w3 ⟨v3, rfl, ha3⟩; have hne3 := ha3.ne (n := w.heap.size) (Nat.lt_of_lt_of_le hb2 hbz) hnn; have hS3 := ha3.cell (p := ⟨w.heap.size, 0, none⟩) (hx115.cell s0) hnn))
    have hx5 : Ex w2 w5 := ha5.ex (ha4.ex (ha3.ex hx115 (fun k hk => by cases hk; exact Nat.le_refl _)) (fun k hk => (ha3.own.lt k hk).1)) (fun k hk => (ha4.own.lt k hk).1)
    have ho5 := ha5.own
    clear ha5 ha4 ha3 hS5 hS4 hS3 hne3 hne4 ho115 hx115 hnn s0
    obtain ⟨m0, hm0⟩ : ∃ m0, m0 = [115] ++ put 3 ++ put ix ++ put (y.length : Int) := ⟨_, rfl⟩
    rw [← hm0] at ho5
    have hml : m0.length ≤ 31 := by rw [hm0]; simp only [List.length_append, List.length_cons, List.length_nil]; omega
    have hman : Hid (manB ix y = m0 ++ fix (sum y) 4) := by rw [Hid, hm0]; simp [manB]
    clear hm0
    have hr5 := hr2.ex hx5
    have hsl := more_lt 0 y
    have g7 : (m0.length + (fix (sum y) 4).length) * 1 ≤ 140737488355328 := by rw [fix_len]; omega
    go_wp2_with (first
      | (go_at_call 33; go_loud (refine (crc_Sum A2 c2 y _ hr5).mono ?_); rintro e w6 ⟨rfl, hx6⟩)
      | (go_at_call 63; go_loud (refine (num_Fixed32 _ hsl _).mono ?_); rintro e w7 ⟨v7, rfl, ho7, hx7⟩; (obtain ⟨A7, c7, rfl, hr7⟩ := ho7.rd))
      | ((with_reducible refine gate_bi (b := .append) (xs := #[.tmp 21, .tmp 24]) rfl ?_); at_builtin; go_loud (refine own_appR eB w2.heap.size rfl (.tmp 21) (.tmp 24) 22 5 (.int .u8 0) 1 rfl Tryz.underlying22 infoB rfl (by decide) v5 m0 (fix (sum y) 4) A7 c7 rfl rfl (ho5.ex (hx6.trans hx7)) hr7 (hx5.trans (hx6.trans hx7)).le g7 ?_); intro v8 w8 ho8 hg8 ha8; rw [← hman.out] at ho8; (obtain ⟨A8, c8, rfl, hr8⟩ := ho8.rd))
      | (go_at_call 62; go_loud (refine (snap_framed A8 c8 _ _ hr8).mono ?_); rintro e w9 ⟨v9, rfl, ho9, hx9⟩))
    have hx8 : Ex w2 w8 := (hx5.trans (hx6.trans hx7)).grown hg8 (fun k hk => (ho5.lt k hk).1)
    have hx9 := hx8.trans hx9
    have hA2 : ∀ a, A2 = some a → a.block < w8.heap.size := fun a ha => by
      subst ha; exact Nat.lt_of_lt_of_le (ho2.lt a.block rfl).2 hx8.le
    have hr9 := hr2.ex hx9
    have hml2 := manB_len ix y
    have hel := encF_len (manB ix y)
    obtain ⟨out0, hout0⟩ : ∃ o, o = encF (manB ix y) := ⟨_, rfl⟩
    have he9 := He.out
    rw [← hout0] at hel ho9 he9
    have He9 := Lib.hid he9
    have hel9 : out0.length ≤ 49 := by omega
    clear hml2 hel hout0 hr5 ho5 hr8 ho8 hr7 ho7 hg8 ha8 hx5 hx6 hx7 he9
    go_loopw [4, 6] (fun z v wr => ∃ (A' : Option Addr) (c' : Nat) (q out : List UInt8), z = .slice A' q.length c' ∧ Rd eB wr A' c' q ∧ (∀ a, A' = some a → a.block < w8.heap.size) ∧ Ex w2 wr ∧ w8.heap.size ≤ wr.heap.size ∧ Own eB 5 wr w8.heap.size v out ∧ Hid (encN ⟨ix, ⟨kind, l, sd, tt⟩, t⟩ = out ++ (chunks q).flatMap encF) ∧ out.length + 80 * q.length ≤ 400000) (fun z _ _ => slLen z)
    case atStart => exact ⟨A2, c2, y, out0, rfl, hr9, hA2, hx9, (by assumption : Ex w8 w9).le, ho9, He9, by omega⟩
    case round =>
      obtain ⟨A', c', q, out, rfl, hrq, hA', hxr, hlr, ho, he, hlen⟩ := hrel
      have hqc := hrq.len
      by_cases h0 : q.length = 0
      · have hq : q = [] := List.eq_nil_of_length_eq_zero h0
        have hf : Hid (out = encN ⟨ix, ⟨kind, l, sd, tt⟩, t⟩) := by
          have h := he.out; rw [hq, chunks_nil] at h; rw [Hid, h]; simp
        clear hq he
        go_wp2_with fail
        go_ret2
        exact ⟨_, rfl, by rw [← hf.out]; exact ho.lower (Nat.le_trans hxx.le hx8.le), hxx.trans hxr⟩
      · have hne : q ≠ [] := fun e => h0 (by rw [e]; rfl)
        have hpos : 0 < q.length := by omega
        obtain ⟨n, hn⟩ : ∃ n : Nat, n = min q.length 64 := ⟨_, rfl⟩
        have hnq : n ≤ q.length := by omega
        have hn1 : 1 ≤ n := by omega
        have ht1 : q.take n = q.take 64 := by
          by_cases h : q.length ≤ 64
          · rw [show n = q.length by omega, List.take_length, List.take_of_length_le h]
          · rw [show n = 64 by omega]
        have ht2 : q.drop n = q.drop 64 := by
          by_cases h : q.length ≤ 64
          · rw [show n = q.length by omega, List.drop_length, List.drop_eq_nil_of_le h]
          · rw [show n = 64 by omega]
        obtain ⟨A3, c3, x3, hx3, run3, r3⟩ := cut_hm (P := Tryz.prog) wr 22 5 Tryz.underlying22 sizeB hrq (n : Int) (n : Int) (by omega) (by omega) (by omega) (by omega)
        obtain ⟨A4, c4, x4, hx4, run4, r4, hbl⟩ := cut_fromB (P := Tryz.prog) wr 22 5 Tryz.underlying22 sizeB hrq (n : Int) (by omega) (by omega)
        have e3 : x3 = q.take 64 := by have h := hx3.out; rw [Int.toNat_natCast, ht1] at h; exact h
        have e4 : x4 = q.drop 64 := by have h := hx4.out; rw [Int.toNat_natCast, ht2] at h; exact h
        have l4 : x4.length + n = q.length := by have h := hx4.out; rw [Int.toNat_natCast] at h; rw [h, List.length_drop]; omega
        have l3 : x3.length = n := by have h := hx3.out; rw [Int.toNat_natCast] at h; rw [h, List.length_take]; omega
        have hst : Hid (encN ⟨ix, ⟨kind, l, sd, tt⟩, t⟩ = (out ++ encF x3) ++ (chunks x4).flatMap encF) := by
          have h := he.out
          rw [chunks_cons hne, List.flatMap_cons, ← e3, ← e4, ← List.append_assoc] at h
          exact h
        have hA4 : ∀ a, A4 = some a → a.block < w8.heap.size := fun a ha => by
          obtain ⟨b, hb, hbb⟩ := hbl a ha
          rw [← hbb]; exact hA' b hb
        have hel3 := encF_len x3
        have g8 : (out.length + (encF x3).length) * 1 ≤ 140737488355328 := by omega
        have hmin : (if 64 < (q.length : Int) then 64 else (q.length : Int)) = (n : Int) := by split <;> omega
        have HA4 := Lib.hid hA4
        have L3 := Lib.hid l3
        have L4 := Lib.hid l4
        clear l3 l4
        clear hx3 hx4 e3 e4 ht1 ht2 hbl hA' he hne hn hA4 hC Hall Hy hman He9 He hr2 hr9 hA2 hr ht hl htl
        go_wp2_with (first
          | (go_at_call 62; go_loud (refine (snap_framed A3 c3 x3 _ r3).mono ?_); rintro e w10 ⟨v10, rfl, ho10, hx10⟩; (obtain ⟨A10, c10, rfl, hr10⟩ := ho10.rd))
          | ((with_reducible refine gate_bi (b := .append) (xs := #[.tmp 33, .tmp 38]) rfl ?_); at_builtin; go_loud (refine own_appR eB w8.heap.size rfl (.tmp 33) (.tmp 38) 22 5 (.int .u8 0) 1 rfl Tryz.underlying22 infoB rfl (by decide) _ out (encF x3) A10 c10 rfl rfl (ho.ex hx10) hr10 (Nat.le_trans hlr hx10.le) g8 ?_); intro v11 w11 ho11 hg11 ha11))
        have hx11 : Ex w2 w11 := (hxr.trans hx10).grown hg11 (fun k hk => Nat.le_trans hx8.le (ho.lt k hk).1)
        have hr4 : Rd eB w11 A4 c4 x4 := (r4.ex hx10).grown hg11 (fun a ha e => by have h1 := HA4.out a ha; have h2 := (ho.lt _ e).1; omega)
        go_roundw
        case rel => exact ⟨A4, c4, x4, out ++ encF x3, rfl, hr4, HA4.out, hx11, Nat.le_trans hlr (Nat.le_trans hx10.le hg11.size), ho11, hst, by rw [List.length_append]; have h3 := L3.out; have h4 := L4.out; omega⟩
        case measure => have h4 := L4.out; simp only [slLen]; omega
end Go.Proofs.YtdghbnkegahdnaaGreat.B
