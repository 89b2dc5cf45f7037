/- The walks of the references of snapshots: Decode, Same. -/
import Derived.Test.YtdghbnkegahdnaaGreatRef9R
import Derived.Test.YtdghbnkegahdnaaGreatSnapE
set_option linter.unusedVariables false
set_option linter.unusedSimpArgs false
set_option maxRecDepth 100000
set_option maxHeartbeats 2000000
namespace Go.Proofs.YtdghbnkegahdnaaGreat.B
open Go Go.RowKit Go.Proofs

theorem ref09_Decode_1 (A : Option Addr) (c : Nat) (b : List UInt8) (w : World) (hr : Rd eB w A c b) (hl : b.length ≤ 1000000000000)
    (hcase : (((allF b).2 != 0) = true ∧ Hid (decN b = (snZ, (allF b).2))) ∨ (((allF b).2 != 0) = false ∧ (((allF b).1.length : Int) == 0) = true ∧ Hid (decN b = (snZ, 16)))) :
    Calls Tryz.prog 13 #[.slice A b.length c] w (DecR b w) := by
  have hZ1 : Sn0 (w.alloc snC) w.heap.size := sn0_new w
  have hZ2 : Sn0 ((w.alloc snC).alloc snC) w.heap.size := hZ1.ex ((Ex.refl _).alloc _)
  have hZ3 : Sn0 ((w.alloc snC).alloc snC) (w.heap.size + 1) := by have h := sn0_new (w.alloc snC); simpa using h
  have hx0 : Ex w ((w.alloc snC).alloc snC) := ((Ex.refl w).alloc _).alloc _
  rcases hcase with ⟨h1, hs⟩ | ⟨h1, h2, hs⟩
  all_goals
    go_enter Tryz.func13, Tryz.ntmps13
    go_wp2_with (go_at_call 17; go_loud (refine (ref03_All A c b _ (hr.ex hx0) hl).mono ?_); rintro e w1 ⟨v1, rfl, ho1, hx1⟩; (obtain ⟨A1, c1, hv1, hr1⟩ := ho1.rd); rw [hv1]; (obtain ⟨⟨q0, f0⟩, ⟨q1, f1⟩, ⟨q2, f2⟩, ⟨q3, f3⟩, ⟨q4, f4⟩, ⟨q5, f5⟩⟩ := hZ2.ex hx1); (obtain ⟨⟨p0, -⟩, ⟨p1, -⟩, ⟨p2, -⟩, ⟨p3, -⟩, ⟨p4, -⟩, ⟨p5, -⟩⟩ := hZ3.ex hx1); have hw1 : w.heap.size < w1.heap.size := World.block_lt_of_cell? w1 _ q0; have hx01 : Ex w w1 := hx0.trans hx1)
  · refine bodyPost_ret (v := .tuple #[.agg #[.int .i64 0, .int .i64 0, .slice none 0 0, .bool false, .int .i64 0, .slice none 0 0], .int .i64 (allF b).2]) (by simp [results, Tryz.results13, go_sem, q0, q1, q2, q3, q4, q5, hw1]) rfl (DecR.none hs.out (by with_reducible (repeat' first | exact hx01 | refine Ex.set ?_ (Nat.le_refl _) _)))
  · refine bodyPost_ret (v := .tuple #[.agg #[.int .i64 0, .int .i64 0, .slice none 0 0, .bool false, .int .i64 0, .slice none 0 0], .int .i64 16]) (by simp [results, Tryz.results13, go_sem, q0, q1, q2, q3, q4, q5, hw1]) rfl (DecR.none hs.out (by with_reducible (repeat' first | exact hx01 | refine Ex.set ?_ (Nat.le_refl _) _)))
theorem ref09_Decode_2 (A : Option Addr) (c : Nat) (b : List UInt8) (w : World) (hr : Rd eB w A c b) (hl : b.length ≤ 1000000000000)
    (ds : List (List UInt8)) (HDs : Hid (ds = (allF b).1)) (h1 : ((allF b).2 != 0) = false) (h2 : ((ds.length : Int) == 0) = false) (hpos : 0 < ds.length) (d : List UInt8) (HD : Hid (d = ds[0])) (hdl : d.length ≤ 70000000000000)
    (er : Int) (HEr : Hid (er = (readM d).2.2.2)) (mi ms mz : Nat) (HMi : Hid (mi = (readM d).1)) (HMs : Hid (ms = (readM d).2.1)) (HMz : Hid (mz = (readM d).2.2.1))
    (k1 : (er != 0) = true) (hs : Hid (decN b = (snZ, er))) :
    Calls Tryz.prog 13 #[.slice A b.length c] w (DecR b w) := by
  have hZ1 : Sn0 (w.alloc snC) w.heap.size := sn0_new w
  have hZ2 : Sn0 ((w.alloc snC).alloc snC) w.heap.size := hZ1.ex ((Ex.refl _).alloc _)
  have hZ3 : Sn0 ((w.alloc snC).alloc snC) (w.heap.size + 1) := by have h := sn0_new (w.alloc snC); simpa using h
  have hx0 : Ex w ((w.alloc snC).alloc snC) := ((Ex.refl w).alloc _).alloc _
  have HZ := Lib.hid (And.intro hZ2 hZ3)
  clear hZ1 hZ2 hZ3
  go_enter Tryz.func13, Tryz.ntmps13
  go_wp2_with (first
    | (go_at_call 17; go_loud (refine (ref03_All A c b _ (hr.ex hx0) hl).mono ?_); rintro e w1 ⟨v1, rfl, ho1, hx1⟩; (obtain ⟨A1, c1, hv1, hr1⟩ := ho1.rd); rw [hv1]; rw [← HDs.out] at hr1 ⊢; have HR1 := Lib.hid hr1; (obtain ⟨ad, A', c', rfl, hc0, hrd⟩ := hr1.at_ hpos); have ha0 : ad.add 0 = ad := (by unfold Addr.add; rw [if_pos rfl]); rw [ha0] at hc0; rw [← HD.out] at hc0 hrd; clear ha0; have hx01 : Ex w w1 := hx0.trans hx1; have HS1 := Lib.hid (HZ.out.1.ex hx1); have HT1 := Lib.hid (HZ.out.2.ex hx1); (obtain ⟨⟨q0, f0⟩, ⟨q1, f1⟩, ⟨q2, f2⟩, ⟨q3, f3⟩, ⟨q4, f4⟩, ⟨q5, f5⟩⟩ := HS1.out); (obtain ⟨⟨p0, -⟩, ⟨p1, -⟩, ⟨p2, -⟩, ⟨p3, -⟩, ⟨p4, -⟩, ⟨p5, -⟩⟩ := HT1.out); have hw1 : w.heap.size + 1 < w1.heap.size := World.block_lt_of_cell? w1 _ p0; have hw10 : w.heap.size < w1.heap.size := Nat.lt_of_succ_lt hw1)
    | (go_at_call 36; go_loud (refine (ref09_manifest A' c' d _ hrd hdl).mono ?_); rintro e w2 ⟨rfl, rfl⟩; rw [← HEr.out, ← HMi.out, ← HMs.out, ← HMz.out]))
  refine bodyPost_ret (v := .tuple #[.agg #[.int .i64 0, .int .i64 0, .slice none 0 0, .bool false, .int .i64 0, .slice none 0 0], .int .i64 er]) (by simp [results, Tryz.results13, go_sem, q0, q1, q2, q3, q4, q5, hw10]) rfl (DecR.none hs.out (by with_reducible (repeat' first | exact hx01 | refine Ex.alloc ?_ _ | refine Ex.set ?_ (Nat.le_refl _) _)))
theorem ref09_Decode_3 (A : Option Addr) (c : Nat) (b : List UInt8) (w : World) (hr : Rd eB w A c b) (hl : b.length ≤ 1000000000000)
    (ds : List (List UInt8)) (HDs : Hid (ds = (allF b).1)) (h1 : ((allF b).2 != 0) = false) (h2 : ((ds.length : Int) == 0) = false) (hpos : 0 < ds.length) (d : List UInt8) (HD : Hid (d = ds[0])) (r : List (List UInt8)) (hdl : d.length ≤ 70000000000000) (HR : Hid (r = ds.drop 1)) (hdsl : ds.length ≤ 1000000000000) (fl : List UInt8) (HFl : Hid (fl = r.flatten)) (hfl : fl.length ≤ 1000000000000)
    (er : Int) (HEr : Hid (er = (readM d).2.2.2)) (k0 : (er != 0) = false) (mi ms mz : Nat) (HMi : Hid (mi = (readM d).1)) (HMs : Hid (ms = (readM d).2.1)) (HMz : Hid (mz = (readM d).2.2.1))
    (sm : Nat) (HSm : Hid (sm = sum fl)) (hsm : sm < 4294967296) (er2 : Int) (HEr2 : Hid (er2 = (readN fl).2)) (s : Snp) (HSn : Hid (s = (readN fl).1)) (hsl : er2 = 0 → s.st.l.length ≤ 4000000000000)
    (hcase : (((fl.length : Int) != (ms : Int)) = true ∧ Hid (decN b = (snZ, 16))) ∨ (((fl.length : Int) != (ms : Int)) = false ∧ Hid (cutN r = false) ∧ Hid (decN b = (snZ, 3)))
      ∨ (((fl.length : Int) != (ms : Int)) = false ∧ Hid (cutN r = true) ∧ ((sm : Int) != (mz : Int)) = true ∧ Hid (decN b = (snZ, 4)))
      ∨ (((fl.length : Int) != (ms : Int)) = false ∧ Hid (cutN r = true) ∧ ((sm : Int) != (mz : Int)) = false ∧ (er2 != 0) = true ∧ Hid (decN b = (snZ, er2)))
      ∨ (((fl.length : Int) != (ms : Int)) = false ∧ Hid (cutN r = true) ∧ ((sm : Int) != (mz : Int)) = false ∧ (er2 != 0) = false ∧ Hid (mayN ⟨mi, s.st, s.tab⟩ = false) ∧ Hid (decN b = (snZ, 1)))
      ∨ (((fl.length : Int) != (ms : Int)) = false ∧ Hid (cutN r = true) ∧ ((sm : Int) != (mz : Int)) = false ∧ (er2 != 0) = false ∧ Hid (mayN ⟨mi, s.st, s.tab⟩ = true) ∧ Hid (decN b = (⟨mi, s.st, s.tab⟩, 0)))) :
    Calls Tryz.prog 13 #[.slice A b.length c] w (DecR b w) := by
  have hZ1 : Sn0 (w.alloc snC) w.heap.size := sn0_new w
  have hZ2 : Sn0 ((w.alloc snC).alloc snC) w.heap.size := hZ1.ex ((Ex.refl _).alloc _)
  have hZ3 : Sn0 ((w.alloc snC).alloc snC) (w.heap.size + 1) := by have h := sn0_new (w.alloc snC); simpa using h
  have hx0 : Ex w ((w.alloc snC).alloc snC) := ((Ex.refl w).alloc _).alloc _
  have HZ := Lib.hid (And.intro hZ2 hZ3)
  clear hZ1 hZ2 hZ3
  have hfl7 : fl.length ≤ 70000000000000 := by omega
  have HSl := Lib.hid hsl
  clear hsl
  go_enter Tryz.func13, Tryz.ntmps13
  go_wp2_with (first
    | (go_at_call 17; go_loud (refine (ref03_All A c b _ (hr.ex hx0) hl).mono ?_); rintro e w1 ⟨v1, rfl, ho1, hx1⟩; (obtain ⟨A1, c1, hv1, hr1⟩ := ho1.rd); rw [hv1]; rw [← HDs.out] at hr1 ⊢; have HR1 := Lib.hid hr1; (obtain ⟨A2, c2, ys, hys, r2, -, run2⟩ := hr1.cut 45 22 (P := Tryz.prog) Tryz.underlying45 sizeS1 1 ds.length (by omega) (Nat.le_refl _)); have run2' := run2 rfl 1 rfl; have hys' : ys = r := (by rw [hys.out, HR.out, List.take_length]); subst hys'; clear run2; (obtain ⟨ad, A', c', rfl, hc0, hrd⟩ := hr1.at_ hpos); have ha0 : ad.add 0 = ad := (by unfold Addr.add; rw [if_pos rfl]); rw [ha0] at hc0; rw [← HD.out] at hc0 hrd; clear ha0; have hx01 : Ex w w1 := hx0.trans hx1; have HS1 := Lib.hid (HZ.out.1.ex hx1); have HT1 := Lib.hid (HZ.out.2.ex hx1); (obtain ⟨⟨q0, f0⟩, ⟨q1, f1⟩, ⟨q2, f2⟩, ⟨q3, f3⟩, ⟨q4, f4⟩, ⟨q5, f5⟩⟩ := HS1.out); (obtain ⟨⟨p0, -⟩, ⟨p1, -⟩, ⟨p2, -⟩, ⟨p3, -⟩, ⟨p4, -⟩, ⟨p5, -⟩⟩ := HT1.out); have hw1 : w.heap.size + 1 < w1.heap.size := World.block_lt_of_cell? w1 _ p0; have hw10 : w.heap.size < w1.heap.size := Nat.lt_of_succ_lt hw1)
    | (go_at_call 36; go_loud (refine (ref09_manifest A' c' d _ hrd hdl).mono ?_); rintro e w2 ⟨rfl, rfl⟩; rw [← HEr.out, ← HMi.out, ← HMs.out, ← HMz.out]))
  clear q0 q1 q2 q3 q4 q5 f0 f1 f2 f3 f4 f5 p0 p1 p2 p3 p4 p5
  clear hc0 hrd
  go_loopw [11, 12] (fun v i wr => ∃ q : Nat, i = .int .i64 ((q : Int) + 1) ∧ q ≤ ys.length ∧ Ex w1 wr ∧ Own eB 5 wr w1.heap.size v (ys.take q).flatten) (fun _ i _ => (ds.length - intOf i).toNat)
  case atStart => exact ⟨0, rfl, by omega, Ex.refl _, by simpa using Own.nil eB 5 w1 w1.heap.size⟩
  case round =>
    obtain ⟨q, rfl, hq, hx, ho⟩ := hrel
    have hyl : ys.length + 1 = ds.length := by have h := HR.out; rw [h, List.length_drop]; omega
    have hxw := hx01.trans hx
    by_cases hlt : q < ys.length
    · have hq1 : q + 1 < ds.length := by omega
      obtain ⟨ad', A5, c5, hsome, hc5, hr5⟩ := (HR1.out.ex hx).at_ hq1
      cases hsome
      have hyq : ds[q + 1] = ys[q] := by have h := HR.out; subst h; rw [List.getElem_drop]; congr 1; omega
      rw [hyq] at hc5 hr5
      rw [add_succ] at hc5
      have hft := Lib.hid (flat_take hlt)
      have hfle := flat_le ys (q + 1)
      rw [← HFl.out, hft.out, List.length_append] at hfle
      obtain ⟨z, hz⟩ : ∃ z, z = ys[q] := ⟨_, rfl⟩
      rw [← hz] at hc5 hr5 hft hfle
      have Hz := Lib.hid hz
      clear hz hyq
      have gk1 : (q : Int) + 1 < (ds.length : Int) := by omega
      have gk2 : (0 : Int) ≤ (q : Int) + 1 := by omega
      have gk3 : ((q : Int) + 1).toNat = q + 1 := by omega
      have hlen : Hid (((ys.take q).flatten.length + z.length) * 1 ≤ 140737488355328) := by rw [Hid]; omega
      obtain ⟨zs, hzs⟩ : ∃ zs, zs = (ys.take q).flatten := ⟨_, rfl⟩
      rw [← hzs] at ho hft hlen
      have Hzs := Lib.hid hzs
      have Hno : Hid (∀ k', u11.ownBlock = some k' → w1.heap.size ≤ k') := fun k' hk' => (ho.lt k' hk').1
      clear hzs hfle hyl
      go_wp2_with ((with_reducible refine gate_bi (b := .append) (xs := #[.tmp 50, .tmp 54]) rfl ?_); at_builtin; go_loud (refine own_appR eB w1.heap.size rfl (.tmp 50) (.tmp 54) 22 5 (.int .u8 0) 1 rfl Tryz.underlying22 infoB rfl (by decide) _ zs z A5 c5 rfl rfl ho hr5 hx.le hlen.out ?_); intro v6 w6 ho6 hg6 ha6)
      go_roundw
      case rel => exact ⟨q + 1, by go_num, hlt, hx.grown hg6 (fun k' hk' => Hno.out k' hk'), by rw [hft.out]; exact ho6⟩
      case measure => simp [intOf]; omega
    · have hqy : q = ys.length := by omega
      have gk1 : ¬ (q : Int) + 1 < (ds.length : Int) := by omega
      subst hqy
      rw [List.take_length, ← HFl.out] at ho
      obtain ⟨A4, c4, rfl, hr4⟩ := ho.rd
      have HS4 := Lib.hid (HS1.out.ex hx)
      have HT4 := Lib.hid (HT1.out.ex hx)
      obtain ⟨⟨q0, f0⟩, ⟨q1, f1⟩, ⟨q2, f2⟩, ⟨q3, f3⟩, ⟨q4, f4⟩, ⟨q5, f5⟩⟩ := HS4.out
      obtain ⟨⟨p0, -⟩, ⟨p1, -⟩, ⟨p2, -⟩, ⟨p3, -⟩, ⟨p4, -⟩, ⟨p5, -⟩⟩ := HT4.out
      have hwr : w.heap.size < wr.heap.size := World.block_lt_of_cell? _ _ q0
      have hr2w := r2.ex hx
      clear hyl hlt
      rcases hcase with ⟨k1, hs⟩ | ⟨k1, k2, hs⟩ | ⟨k1, k2, k3, hs⟩ | ⟨k1, k2, k3, k4, hs⟩ | ⟨k1, k2, k3, k4, k5, hs⟩ | ⟨k1, k2, k3, k4, k5, hs⟩
      all_goals
        go_wp2_with (first
          | (go_at_call 37; go_loud (refine (ref09_cut A2 c2 ys _ hr2w).mono ?_); rintro e w5 ⟨rfl, rfl⟩; rw [k2.out])
          | (go_at_call 38; go_loud (refine (ref02_Sum A4 c4 fl _ hr4).mono ?_); rintro e w5 ⟨rfl, rfl⟩; rw [← HSm.out])
          | (go_at_call 39; go_loud (refine (ref09_read A4 c4 fl _ hr4 hfl).mono ?_); rintro e w6 ⟨B, db, C, cc, rfl, hB, hC, hBn, hCn, hx6⟩; rw [← HEr2.out, ← HSn.out]; rw [← HSn.out] at hB hC; have Hn := Lib.hid (And.intro hBn hCn); clear hBn hCn; have hxw6 : Ex w w6 := hxw.trans hx6; have HS6 := Lib.hid (HS4.out.ex hx6); have HT6 := Lib.hid (HT4.out.ex hx6); clear q0 q1 q2 q3 q4 q5 f0 f1 f2 f3 f4 f5 p0 p1 p2 p3 p4 p5; (obtain ⟨⟨q0, f0⟩, ⟨q1, f1⟩, ⟨q2, f2⟩, ⟨q3, f3⟩, ⟨q4, f4⟩, ⟨q5, f5⟩⟩ := HS6.out); (obtain ⟨⟨p0, -⟩, ⟨p1, -⟩, ⟨p2, -⟩, ⟨p3, -⟩, ⟨p4, -⟩, ⟨p5, -⟩⟩ := HT6.out); have hw6 : w.heap.size < w6.heap.size := World.block_lt_of_cell? _ _ q0; have hp6 : w.heap.size + 1 < w6.heap.size := World.block_lt_of_cell? _ _ p0)
          | (go_at_call 40; have he6 : er2 = 0 := (by rw [bne_eq_false_iff_eq] at k4; exact k4); go_loud (refine (ref09_May ⟨mi, s.st, s.tab⟩ B db C cc _ (hB.ex ((Ex.refl _).alloc _)) (HSl.out he6) (hC.ex ((Ex.refl _).alloc _))).mono ?_); rintro e w7 ⟨rfl, hx7⟩; rw [k5.out]; clear he6; have hx67 : Ex w6 w7 := ((Ex.refl w6).alloc _).trans hx7; have hB7 := hB.ex hx67; have hC7 := hC.ex hx67; have hxw7 : Ex w w7 := hxw6.trans hx67; have HS7 := Lib.hid (HS6.out.ex hx67); have HT7 := Lib.hid (HT6.out.ex hx67); clear q0 q1 q2 q3 q4 q5 f0 f1 f2 f3 f4 f5 p0 p1 p2 p3 p4 p5; (obtain ⟨⟨q0, f0⟩, ⟨q1, f1⟩, ⟨q2, f2⟩, ⟨q3, f3⟩, ⟨q4, f4⟩, ⟨q5, f5⟩⟩ := HS7.out); (obtain ⟨⟨p0, -⟩, ⟨p1, -⟩, ⟨p2, -⟩, ⟨p3, -⟩, ⟨p4, -⟩, ⟨p5, -⟩⟩ := HT7.out); have hw7 : w.heap.size < w7.heap.size := World.block_lt_of_cell? _ _ q0; have g0 := (hx7.both (new_cell (u := .int .i64 mi) w6 #[.int .i64 mi, .int .i64 s.st.kind, .slice B s.st.l.length db, .bool s.st.sealed, .int .i64 s.st.to, .slice C s.tab.length cc] 39 0 rfl)).1; have g1 := (hx7.both (new_cell (u := .int .i64 s.st.kind) w6 #[.int .i64 mi, .int .i64 s.st.kind, .slice B s.st.l.length db, .bool s.st.sealed, .int .i64 s.st.to, .slice C s.tab.length cc] 39 1 rfl)).1; have g2 := (hx7.both (new_cell (u := .slice B s.st.l.length db) w6 #[.int .i64 mi, .int .i64 s.st.kind, .slice B s.st.l.length db, .bool s.st.sealed, .int .i64 s.st.to, .slice C s.tab.length cc] 39 2 rfl)).1; have g3 := (hx7.both (new_cell (u := .bool s.st.sealed) w6 #[.int .i64 mi, .int .i64 s.st.kind, .slice B s.st.l.length db, .bool s.st.sealed, .int .i64 s.st.to, .slice C s.tab.length cc] 39 3 rfl)).1; have g4 := (hx7.both (new_cell (u := .int .i64 s.st.to) w6 #[.int .i64 mi, .int .i64 s.st.kind, .slice B s.st.l.length db, .bool s.st.sealed, .int .i64 s.st.to, .slice C s.tab.length cc] 39 4 rfl)).1; have g5 := (hx7.both (new_cell (u := .slice C s.tab.length cc) w6 #[.int .i64 mi, .int .i64 s.st.kind, .slice B s.st.l.length db, .bool s.st.sealed, .int .i64 s.st.to, .slice C s.tab.length cc] 39 5 rfl)).1))
      · refine bodyPost_ret (v := .tuple #[.agg #[.int .i64 0, .int .i64 0, .slice none 0 0, .bool false, .int .i64 0, .slice none 0 0], .int .i64 16]) (by simp [results, Tryz.results13, go_sem, q0, q1, q2, q3, q4, q5, hwr]) rfl (DecR.none hs.out (by with_reducible (repeat' first | exact hxw | refine Ex.alloc ?_ _ | refine Ex.set ?_ (Nat.le_refl _) _)))
      · refine bodyPost_ret (v := .tuple #[.agg #[.int .i64 0, .int .i64 0, .slice none 0 0, .bool false, .int .i64 0, .slice none 0 0], .int .i64 3]) (by simp [results, Tryz.results13, go_sem, q0, q1, q2, q3, q4, q5, hwr]) rfl (DecR.none hs.out (by with_reducible (repeat' first | exact hxw | refine Ex.alloc ?_ _ | refine Ex.set ?_ (Nat.le_refl _) _)))
      · refine bodyPost_ret (v := .tuple #[.agg #[.int .i64 0, .int .i64 0, .slice none 0 0, .bool false, .int .i64 0, .slice none 0 0], .int .i64 4]) (by simp [results, Tryz.results13, go_sem, q0, q1, q2, q3, q4, q5, hwr]) rfl (DecR.none hs.out (by with_reducible (repeat' first | exact hxw | refine Ex.alloc ?_ _ | refine Ex.set ?_ (Nat.le_refl _) _)))
      · refine bodyPost_ret (v := .tuple #[.agg #[.int .i64 0, .int .i64 0, .slice none 0 0, .bool false, .int .i64 0, .slice none 0 0], .int .i64 er2]) (by simp [results, Tryz.results13, go_sem, q0, q1, q2, q3, q4, q5, hw6]) rfl (DecR.none hs.out (by with_reducible (repeat' first | exact hxw6 | refine Ex.alloc ?_ _ | refine Ex.set ?_ (Nat.le_refl _) _)))
      · refine bodyPost_ret (v := .tuple #[.agg #[.int .i64 0, .int .i64 0, .slice none 0 0, .bool false, .int .i64 0, .slice none 0 0], .int .i64 1]) (by simp [results, Tryz.results13, go_sem, q0, q1, q2, q3, q4, q5, hw7]) rfl (DecR.none hs.out (by with_reducible (repeat' first | exact hxw7 | refine Ex.alloc ?_ _ | refine Ex.set ?_ (Nat.le_refl _) _)))
      · refine bodyPost_ret (v := .tuple #[.agg #[.int .i64 mi, .int .i64 s.st.kind, .slice B s.st.l.length db, .bool s.st.sealed, .int .i64 s.st.to, .slice C s.tab.length cc], .int .i64 0]) (by simp [results, Tryz.results13, go_sem, q0, q1, q2, q3, q4, q5, hw7]) rfl ?_
        refine ⟨B, db, C, cc, by rw [hs.out], ?_, ?_, ?_, ?_, ?_⟩
        · rw [hs.out]
          with_reducible
            repeat' first
              | exact hB7
              | refine Rd.grown ?_ (gb_setp _ _ _) (fun a ha e => by have h8 := Hn.out.1 a ha; have := Option.some.inj e; simp only at this; omega)
        · rw [hs.out]
          with_reducible
            repeat' first
              | exact hC7
              | refine Rd.grown ?_ (gb_setp _ _ _) (fun a ha e => by have h8 := Hn.out.2 a ha; have := Option.some.inj e; simp only at this; omega)
        · intro a ha; have := Hn.out.1 a ha; omega
        · intro a ha; have := Hn.out.2 a ha; omega
        · with_reducible (repeat' first | exact hxw7 | refine Ex.set ?_ (Nat.le_refl _) _)
theorem ref09_Decode (A : Option Addr) (c : Nat) (b : List UInt8) (w : World) (hr : Rd eB w A c b) (hl : b.length ≤ 1000000000000) :
    Calls Tryz.prog 13 #[.slice A b.length c] w (DecR b w) := by
  by_cases h1 : (allF b).2 ≠ 0
  · exact ref09_Decode_1 A c b w hr hl (.inl ⟨by rw [bne_iff_ne]; exact h1, by rw [Hid, decN, if_pos h1]⟩)
  · have h1b : ((allF b).2 != 0) = false := by rw [bne_eq_false_iff_eq]; exact Classical.byContradiction h1
    cases hds : (allF b).1 with
    | nil => exact ref09_Decode_1 A c b w hr hl (.inr ⟨h1b, by rw [hds]; rfl, by rw [Hid, decN, if_neg h1, hds]⟩)
    | cons d r =>
      have hspec : decN b = (if (readM d).2.2.2 ≠ 0 then (snZ, (readM d).2.2.2) else if r.flatten.length ≠ (readM d).2.1 then (snZ, 16) else if cutN r = false then (snZ, 3) else if sum r.flatten ≠ (readM d).2.2.1 then (snZ, 4) else
        if (readN r.flatten).2 ≠ 0 then (snZ, (readN r.flatten).2) else if mayN ⟨(readM d).1, (readN r.flatten).1.st, (readN r.flatten).1.tab⟩ = false then (snZ, 1) else (⟨(readM d).1, (readN r.flatten).1.st, (readN r.flatten).1.tab⟩, 0)) := by
        unfold decN; rw [if_neg h1, hds]
      have hfl := allF_flat b
      rw [hds, List.flatten_cons, List.length_append] at hfl
      have h2 : (((d :: r).length : Int) == 0) = false := by rw [beq_eq_false_iff_ne, List.length_cons]; omega
      by_cases h3 : (readM d).2.2.2 ≠ 0
      · exact ref09_Decode_2 A c b w hr hl (d :: r) hds.symm h1b h2 (by simp) d rfl (by omega) _ rfl _ _ _ rfl rfl rfl (by rw [bne_iff_ne]; exact h3) (by rw [Hid, hspec, if_pos h3])
      · have h3' : (readM d).2.2.2 = 0 := Classical.byContradiction h3
        rw [if_neg h3] at hspec
        have hdl2 := walkF_le b
        have hal : (allF b).1.length ≤ b.length := by
          unfold allF; split
          · exact walkF_le b
          · simp
        rw [hds] at hal
        refine ref09_Decode_3 A c b w hr hl (d :: r) hds.symm h1b h2 (by simp) d rfl r (by omega) rfl (by omega) r.flatten rfl (by omega) _ rfl (by rw [h3']; rfl) _ _ _ rfl rfl rfl _ rfl (more_lt 0 _) _ rfl _ rfl (fun h => ?_) ?_
        · have := readN_ok (w := r.flatten) (s := (readN r.flatten).1) (by rw [← h])
          have := (mayS_all this.2.1).2.1
          omega
        · by_cases h4 : r.flatten.length ≠ (readM d).2.1
          · exact .inl ⟨by rw [bne_iff_ne]; omega, by rw [Hid, hspec, if_pos h4]⟩
          · have h4b : ((r.flatten.length : Int) != ((readM d).2.1 : Int)) = false := by rw [bne_eq_false_iff_eq]; omega
            rw [if_neg h4] at hspec
            cases h5 : cutN r with
            | false => exact .inr (.inl ⟨h4b, rfl, by rw [Hid, hspec, if_pos h5]⟩)
            | true =>
              rw [if_neg (by rw [h5]; decide)] at hspec
              by_cases h6 : sum r.flatten ≠ (readM d).2.2.1
              · exact .inr (.inr (.inl ⟨h4b, rfl, by rw [bne_iff_ne]; omega, by rw [Hid, hspec, if_pos h6]⟩))
              · have h6b : ((sum r.flatten : Int) != ((readM d).2.2.1 : Int)) = false := by rw [bne_eq_false_iff_eq]; omega
                rw [if_neg h6] at hspec
                by_cases h7 : (readN r.flatten).2 ≠ 0
                · exact .inr (.inr (.inr (.inl ⟨h4b, rfl, h6b, by rw [bne_iff_ne]; exact h7, by rw [Hid, hspec, if_pos h7]⟩)))
                · have h7b : ((readN r.flatten).2 != 0) = false := by rw [bne_eq_false_iff_eq]; exact Classical.byContradiction h7
                  rw [if_neg h7] at hspec
                  cases h8 : mayN ⟨(readM d).1, (readN r.flatten).1.st, (readN r.flatten).1.tab⟩ with
                  | false => exact .inr (.inr (.inr (.inr (.inl ⟨h4b, rfl, h6b, h7b, rfl, by rw [Hid, hspec, if_pos h8]⟩))))
                  | true => exact .inr (.inr (.inr (.inr (.inr ⟨h4b, rfl, h6b, h7b, rfl, by rw [Hid, hspec, if_neg (by rw [h8]; decide)]⟩))))
end Go.Proofs.YtdghbnkegahdnaaGreat.B
