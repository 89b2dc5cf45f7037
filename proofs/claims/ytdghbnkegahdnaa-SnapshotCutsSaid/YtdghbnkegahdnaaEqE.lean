/- slices.Equal at entries; Same of states and of snapshots; Few. -/
import Derived.Test.YtdghbnkegahdnaaAwk
import Derived.Test.YtdghbnkegahdnaaEqI
set_option linter.unusedVariables false
set_option linter.unusedSimpArgs false
set_option maxRecDepth 100000
set_option maxHeartbeats 2000000
namespace Go.Proofs.Ytdghbnkegahdnaa.B
open Go Go.RowKit Go.Proofs

theorem slices_EqualE (A : Option Addr) (c : Nat) (xs : List Ent) (A' : Option Addr) (c' : Nat) (ys : List Ent) (w : World) (hr : Rd eE w A c xs) (hr' : Rd eE w A' c' ys) :
    Calls Try.prog 47 #[.slice A xs.length c, .slice A' ys.length c'] w fun e w' => e = .returned (.bool (decide (xs = ys))) ∧ Ex w w' := by
  have hlx := hr.lt63
  by_cases hlen : xs.length = ys.length
  · have h1 : ((xs.length : Int) != (ys.length : Int)) = false := by rw [hlen]; simp
    have Hlen := Lib.hid hlen; clear hlen
    go_enter Try.func47, Try.ntmps47
    go_wp2
    go_loopw [13] (fun i wr => ∃ k : Nat, i = .int .i64 k ∧ k ≤ xs.length ∧ Ex w wr ∧ Hid (xs.take k = ys.take k)) (fun i _ => (xs.length - intOf i).toNat)
    case atStart => exact ⟨0, rfl, by omega, Ex.refl _, rfl⟩
    case round =>
      obtain ⟨k, rfl, hk, hx, he⟩ := hrel
      by_cases hlt : k < xs.length
      · have hlt' : k < ys.length := by rw [← Hlen.out]; exact hlt
        obtain ⟨ad, rfl, hc⟩ := entAt (hr.ex hx) hlt
        obtain ⟨ad', rfl, hc'⟩ := entAt (hr'.ex hx) hlt'
        obtain ⟨x, hx0⟩ : ∃ x, x = xs[k] := ⟨_, rfl⟩
        obtain ⟨y, hy0⟩ : ∃ y, y = ys[k] := ⟨_, rfl⟩
        rw [← hx0] at hc
        rw [← hy0] at hc'
        obtain ⟨c0, c1, c2⟩ := hc
        obtain ⟨d0, d1, d2⟩ := hc'
        have p1 : (0 : Int) ≤ (k : Int) := by omega
        have p2 : (k : Int) < (xs.length : Int) := by omega
        have p3 : (k : Int) < (ys.length : Int) := by omega
        have Hx0 := Lib.hid hx0; have Hy0 := Lib.hid hy0
        clear hx0 hy0
        by_cases hxy : x = y
        · subst hxy
          have he2 := Lib.hid (take_eq_succ he.out hlt hlt' (Hx0.out.symm.trans Hy0.out))
          obtain ⟨x0, x1, x2⟩ := x
          simp only at c0 c1 c2 d0 d1 d2
          go_wp2
          have l0 := lat_cell c0
          have l1 := lat_cell c1
          have l2 := lat_cell c2
          have m0 := lat_cell d0
          have m1 := lat_cell d1
          have m2 := lat_cell d2
          refine wp_region_ex (by kernel_rfl) (by kernel_rfl) ?_
          repeat (go_big_quiet_step (fail))
          refine wpQuiet_nil ?_
          rintro _ ⟨y5, rfl⟩
          go_wp2
          go_roundw
          case rel => exact ⟨k + 1, rfl, hlt, hx.trans y5.ex, he2⟩
          case measure => simp [intOf]; omega
        · have hne : Hid (¬ xs = ys) := fun h => hxy (by rw [Hx0.out, Hy0.out]; subst h; rfl)
          obtain ⟨x0, x1, x2⟩ := x
          obtain ⟨y0, y1, y2⟩ := y
          simp only at c0 c1 c2 d0 d1 d2
          have Hxy : Hid (x0 = y0 → x1 = y1 → x2 = y2 → False) := fun e0 e1 e2 => hxy (by rw [e0, e1, e2])
          clear hxy
          go_wp2
          have l0 := lat_cell c0
          have l1 := lat_cell c1
          have l2 := lat_cell c2
          have m0 := lat_cell d0
          have m1 := lat_cell d1
          have m2 := lat_cell d2
          refine wp_region_ex (by kernel_rfl) (by kernel_rfl) ?_
          repeat (go_big_quiet_step (fail))
          refine wpQuiet_step (fun K hK => ?_)
          go_simp
          refine ⟨.bool true, fun a => ?_, hK _ ?_⟩
          · by_cases e0 : x0 = y0
            · by_cases e1 : x1 = y1
              · by_cases e2 : x2 = y2
                · exact (Hxy.out e0 e1 e2).elim
                · simp [e0, e1, e2]
              · simp [e0, e1]
            · simp [e0]
          clear hK K
          refine wpQuiet_nil ?_
          rintro _ ⟨y5, rfl⟩
          go_wp2
          go_ret
          exact ⟨rbool (by rw [decide_eq_false hne.out]), hx.trans y5.ex⟩
      · have hne : Hid (xs = ys) := by
          have h := he.out
          rw [List.take_of_length_le (by omega), List.take_of_length_le (by have := Hlen.out; omega)] at h
          exact h
        go_wp2
        go_ret
        exact ⟨rbool (by rw [decide_eq_true hne.out]), hx⟩
  · have h1 : ((xs.length : Int) != (ys.length : Int)) = true := by rw [bne_iff_ne]; omega
    have hne : Hid (¬ xs = ys) := fun h => hlen (by rw [h])
    clear hlen
    go_enter Try.func47, Try.ntmps47
    go_wp2
    go_ret
    exact ⟨rbool (by rw [decide_eq_false hne.out]), Ex.refl _⟩
/-- Same, at one state and the same numbers elsewhere. -/
theorem objs_Same (s t : St) (A : Option Addr) (c : Nat) (B : Option Addr) (d : Nat) (w : World) (hr : Rd eI w A c s.l) (hr' : Rd eI w B d t.l) (hl : s.l.length ≤ 4000000000000) (hl' : t.l.length ≤ 4000000000000) :
    Calls Try.prog 46 #[.agg #[.int .i64 s.kind, .slice A s.l.length c, .bool s.sealed, .int .i64 s.to], .agg #[.int .i64 t.kind, .slice B t.l.length d, .bool t.sealed, .int .i64 t.to]] w fun e w' => e = .returned (.bool (decide (s = t))) ∧ Ex w w' := by
  obtain ⟨sk, sl, ss, sto⟩ := s
  obtain ⟨tk, tl, ts, tto⟩ := t
  simp only at hr hr' hl hl' ⊢
  have hx2 := ((Ex.refl w).alloc (.cells #[.int .i64 sk, .slice A sl.length c, .bool ss, .int .i64 sto] 41)).alloc (.cells #[.int .i64 tk, .slice B tl.length d, .bool ts, .int .i64 tto] 41)
  by_cases h1 : sk = tk
  · subst h1
    by_cases h2 : ss = ts
    · subst h2
      by_cases h3 : sto = tto
      · subst h3
        have hs : Hid (decide (sl = tl) = decide ((⟨sk, sl, ss, sto⟩ : St) = ⟨sk, tl, ss, sto⟩)) := by rw [Hid]; simp
        cases hd : decide (sl = tl) with
        | true =>
          have Hd := Lib.hid hd
          clear hd
          go_enter Try.func46, Try.ntmps46
          go_wp2_with (go_at_call 73; go_loud (refine (slices_EqualI A c sl B d tl _ (hr.ex hx2) (hr'.ex hx2)).mono ?_); rintro e w1 ⟨rfl, hx1⟩; rw [Hd.out])
          go_ret
          exact ⟨rbool (by rw [← hs.out, Hd.out]), hx2.trans hx1⟩
        | false =>
          have Hd := Lib.hid hd
          clear hd
          go_enter Try.func46, Try.ntmps46
          go_wp2_with (go_at_call 73; go_loud (refine (slices_EqualI A c sl B d tl _ (hr.ex hx2) (hr'.ex hx2)).mono ?_); rintro e w1 ⟨rfl, hx1⟩; rw [Hd.out])
          go_ret
          exact ⟨rbool (by rw [← hs.out, Hd.out]), hx2.trans hx1⟩
      · have e3 : (sto == tto) = false := by rw [beq_eq_false_iff_ne]; exact h3
        have hs : Hid (decide ((⟨sk, sl, ss, sto⟩ : St) = ⟨sk, tl, ss, tto⟩) = false) := by rw [Hid]; simp [h3]
        clear h3
        go_enter Try.func46, Try.ntmps46
        go_wp2_with fail
        go_ret
        exact ⟨rbool hs.out.symm, hx2⟩
    · have e2 : (ss == ts) = false := by cases ss <;> cases ts <;> simp at h2 ⊢
      have hs : Hid (decide ((⟨sk, sl, ss, sto⟩ : St) = ⟨sk, tl, ts, tto⟩) = false) := by rw [Hid]; simp [h2]
      clear h2
      go_enter Try.func46, Try.ntmps46
      go_wp2_with fail
      go_ret
      exact ⟨rbool hs.out.symm, hx2⟩
  · have e1 : (sk == tk) = false := by rw [beq_eq_false_iff_ne]; exact h1
    have hs : Hid (decide ((⟨sk, sl, ss, sto⟩ : St) = ⟨tk, tl, ts, tto⟩) = false) := by rw [Hid]; simp [h1]
    clear h1
    go_enter Try.func46, Try.ntmps46
    go_wp2_with fail
    go_ret
    exact ⟨rbool hs.out.symm, hx2⟩
theorem snap_Same_eq (s t : Snp) (h : s = t) (A : Option Addr) (c : Nat) (B : Option Addr) (d : Nat) (C : Option Addr) (c2 : Nat) (D : Option Addr) (d2 : Nat) (w : World) (hr : Rd eI w A c s.st.l) (ht : Rd eE w B d s.tab) (hr' : Rd eI w C c2 t.st.l) (ht' : Rd eE w D d2 t.tab) (hl : s.st.l.length ≤ 4000000000000) :
    Calls Try.prog 20 #[.agg #[.int .i64 s.index, .int .i64 s.st.kind, .slice A s.st.l.length c, .bool s.st.sealed, .int .i64 s.st.to, .slice B s.tab.length d], .agg #[.int .i64 t.index, .int .i64 t.st.kind, .slice C t.st.l.length c2, .bool t.st.sealed, .int .i64 t.st.to, .slice D t.tab.length d2]] w fun e w' => e = .returned (.bool true) ∧ Ex w w' := by
  subst h
  obtain ⟨ix, ⟨k, l, sd, tt⟩, t⟩ := s
  simp only at hr ht hr' ht' hl ⊢
  have hx2 := ((Ex.refl w).alloc (.cells #[.int .i64 ix, .int .i64 k, .slice A l.length c, .bool sd, .int .i64 tt, .slice B t.length d] 44)).alloc (.cells #[.int .i64 ix, .int .i64 k, .slice C l.length c2, .bool sd, .int .i64 tt, .slice D t.length d2] 44)
  go_enter Try.func20, Try.ntmps20
  go_wp2_with (first
    | (go_at_call 46; go_loud (refine (objs_Same ⟨k, l, sd, tt⟩ ⟨k, l, sd, tt⟩ A c C c2 _ (hr.ex hx2) (hr'.ex hx2) hl hl).mono ?_); rintro e w1 ⟨rfl, hx1⟩; rw [decide_eq_true rfl]; (obtain ⟨q5, -⟩ := hx1.both (((Ex.refl _).alloc _).both (new_cell (u := .slice B t.length d) w #[.int .i64 ix, .int .i64 k, .slice A l.length c, .bool sd, .int .i64 tt, .slice B t.length d] 44 5 rfl))); (obtain ⟨p5, -⟩ := hx1.both (new_cell1 (u := .slice D t.length d2) w _ #[.int .i64 ix, .int .i64 k, .slice C l.length c2, .bool sd, .int .i64 tt, .slice D t.length d2] 44 5 rfl)))
    | (go_at_call 47; go_loud (refine (slices_EqualE B d t D d2 t _ ((ht.ex hx2).ex hx1) ((ht'.ex hx2).ex hx1)).mono ?_); rintro e w2 ⟨rfl, hx3⟩; rw [decide_eq_true rfl]))
  go_ret
  exact ⟨rfl, (hx2.trans hx1).trans hx3⟩
theorem law04_Few (s : St) (A : Option Addr) (c : Nat) (w : World) : Calls Try.prog 45 #[.agg #[.int .i64 s.kind, .slice A s.l.length c, .bool s.sealed, .int .i64 s.to]] w fun e w' => e = .returned (.bool (decide (s.l.length ≤ 300))) ∧ Ex w w' := by
  obtain ⟨k, l, sd, tt⟩ := s
  simp only
  go_enter Try.func45, Try.ntmps45
  go_wp2_with fail
  go_ret
  exact ⟨rbool (by first | rfl | (congr 1; exact propext (by omega)) | simp), (Ex.refl w).alloc _⟩
end Go.Proofs.Ytdghbnkegahdnaa.B
