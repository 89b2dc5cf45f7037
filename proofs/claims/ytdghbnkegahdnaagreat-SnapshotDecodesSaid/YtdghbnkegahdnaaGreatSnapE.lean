/- The walk of snapshot.Decode. -/
import Derived.Test.YtdghbnkegahdnaaGreatSnapD
import Derived.Test.YtdghbnkegahdnaaGreatSnapP
set_option linter.unusedVariables false
set_option linter.unusedSimpArgs false
set_option maxRecDepth 100000
set_option maxHeartbeats 2000000
namespace Go.Proofs.YtdghbnkegahdnaaGreat.B
open Go Go.RowKit Go.Proofs

/-- What Decode gives. -/
def DecR (b : List UInt8) (w : World) (e : Ending) (w' : World) : Prop := ∃ (B : Option Addr) (d : Nat) (C : Option Addr) (c2 : Nat),
  e = .returned (.tuple #[.agg #[.int .i64 (decN b).1.index, .int .i64 (decN b).1.st.kind, .slice B (decN b).1.st.l.length d, .bool (decN b).1.st.sealed, .int .i64 (decN b).1.st.to, .slice C (decN b).1.tab.length c2], .int .i64 (decN b).2]) ∧
  Rd eI w' B d (decN b).1.st.l ∧ Rd eE w' C c2 (decN b).1.tab ∧ (∀ a, B = some a → w.heap.size ≤ a.block) ∧ (∀ a, C = some a → w.heap.size ≤ a.block) ∧ Ex w w'
theorem DecR.none {b : List UInt8} {w w' : World} {er : Int} (h : decN b = (snZ, er)) (hx : Ex w w') :
    DecR b w (.returned (.tuple #[.agg #[.int .i64 0, .int .i64 0, .slice .none 0 0, .bool false, .int .i64 0, .slice .none 0 0], .int .i64 er])) w' :=
  ⟨.none, 0, .none, 0, by rw [h]; rfl, by rw [h]; exact Rd.nil _ _ _ _, by rw [h]; exact Rd.nil _ _ _ _, (fun a h => by cases h), (fun a h => by cases h), hx⟩
/-- A snapshot's cells of which none has been set. -/
abbrev Sn0 (w : World) (b : Nat) : Prop := SnAt w b (.slice none 0 0)
abbrev snC : Obj := .cells #[.int .i64 0, .int .i64 0, .slice none 0 0, .bool false, .int .i64 0, .slice none 0 0] 39
theorem sn0_new (w : World) : Sn0 (w.alloc snC) w.heap.size :=
  ⟨new_cell w _ _ 0 rfl, new_cell w _ _ 1 rfl, new_cell w _ _ 2 rfl, new_cell w _ _ 3 rfl, new_cell w _ _ 4 rfl, new_cell w _ _ 5 rfl⟩
theorem snap_Decode_1 (A : Option Addr) (c : Nat) (b : List UInt8) (w : World) (hr : Rd eB w A c b) (hl : b.length ≤ 1000000000000)
    (hcase : (((allF b).2 != 0) = true ∧ Hid (decN b = (snZ, (allF b).2))) ∨ (((allF b).2 != 0) = false ∧ (((allF b).1.length : Int) == 0) = true ∧ Hid (decN b = (snZ, 16)))) :
    Calls Tryz.prog 12 #[.slice A b.length c] w (DecR b w) := by
  have hZ1 : Sn0 (w.alloc snC) w.heap.size := sn0_new w
  have hZ2 : Sn0 ((w.alloc snC).alloc snC) w.heap.size := hZ1.ex ((Ex.refl _).alloc _)
  have hZ3 : Sn0 ((w.alloc snC).alloc snC) (w.heap.size + 1) := by have h := sn0_new (w.alloc snC); simpa using h
  have hx0 : Ex w ((w.alloc snC).alloc snC) := ((Ex.refl w).alloc _).alloc _
  rcases hcase with ⟨h1, hs⟩ | ⟨h1, h2, hs⟩
  all_goals
    go_enter Tryz.func12, Tryz.ntmps12
    go_wp2_with (go_at_call 29; go_loud (refine (frame_All A c b _ (hr.ex hx0) hl).mono ?_); rintro e w1 ⟨v1, rfl, ho1, hx1⟩; (obtain ⟨A1, c1, hv1, hr1⟩ := ho1.rd); rw [hv1]; (obtain ⟨⟨q0, f0⟩, ⟨q1, f1⟩, ⟨q2, f2⟩, ⟨q3, f3⟩, ⟨q4, f4⟩, ⟨q5, f5⟩⟩ := hZ2.ex hx1); (obtain ⟨⟨p0, -⟩, ⟨p1, -⟩, ⟨p2, -⟩, ⟨p3, -⟩, ⟨p4, -⟩, ⟨p5, -⟩⟩ := hZ3.ex hx1); have hw1 : w.heap.size < w1.heap.size := World.block_lt_of_cell? w1 _ q0; have hx01 : Ex w w1 := hx0.trans hx1)
  · refine bodyPost_ret (v := .tuple #[.agg #[.int .i64 0, .int .i64 0, .slice none 0 0, .bool false, .int .i64 0, .slice none 0 0], .int .i64 (allF b).2]) (by simp [results, Tryz.results12, go_sem, q0, q1, q2, q3, q4, q5, hw1]) rfl (DecR.none hs.out (by with_reducible (repeat' first | exact hx01 | refine Ex.set ?_ (Nat.le_refl _) _)))
  · refine bodyPost_ret (v := .tuple #[.agg #[.int .i64 0, .int .i64 0, .slice none 0 0, .bool false, .int .i64 0, .slice none 0 0], .int .i64 16]) (by simp [results, Tryz.results12, go_sem, q0, q1, q2, q3, q4, q5, hw1]) rfl (DecR.none hs.out (by with_reducible (repeat' first | exact hx01 | refine Ex.set ?_ (Nat.le_refl _) _)))
theorem snap_Decode_2 (A : Option Addr) (c : Nat) (b : List UInt8) (w : World) (hr : Rd eB w A c b) (hl : b.length ≤ 1000000000000)
    (ds : List (List UInt8)) (HDs : Hid (ds = (allF b).1)) (h1 : ((allF b).2 != 0) = false) (h2 : ((ds.length : Int) == 0) = false) (hpos : 0 < ds.length) (d : List UInt8) (HD : Hid (d = ds[0])) (r : List (List UInt8)) (HR : Hid (r = ds.drop 1)) (hfl : r.flatten.length ≤ 1000000000000)
    (er : Int) (HEr : Hid (er = (readM d).2.2.2)) (mi ms mz : Nat) (HMi : Hid (mi = (readM d).1)) (HMs : Hid (ms = (readM d).2.1)) (HMz : Hid (mz = (readM d).2.2.1))
    (hcase : ((er != 0) = true ∧ Hid (decN b = (snZ, er)))) :
    Calls Tryz.prog 12 #[.slice A b.length c] w (DecR b w) := by
  have hZ1 : Sn0 (w.alloc snC) w.heap.size := sn0_new w
  have hZ2 : Sn0 ((w.alloc snC).alloc snC) w.heap.size := hZ1.ex ((Ex.refl _).alloc _)
  have hZ3 : Sn0 ((w.alloc snC).alloc snC) (w.heap.size + 1) := by have h := sn0_new (w.alloc snC); simpa using h
  have hx0 : Ex w ((w.alloc snC).alloc snC) := ((Ex.refl w).alloc _).alloc _
  rcases hcase with ⟨k1, hs⟩
  all_goals
    go_enter Tryz.func12, Tryz.ntmps12
    go_wp2_with (first
      | (go_at_call 29; go_loud (refine (frame_All A c b _ (hr.ex hx0) hl).mono ?_); rintro e w1 ⟨v1, rfl, ho1, hx1⟩; (obtain ⟨A1, c1, hv1, hr1⟩ := ho1.rd); rw [hv1]; rw [← HDs.out] at hr1 ⊢; (obtain ⟨ad, A', c', rfl, hc0, hrd⟩ := hr1.at_ hpos); have ha0 : ad.add 0 = ad := (by unfold Addr.add; rw [if_pos rfl]); rw [ha0] at hc0; rw [← HD.out] at hc0 hrd; clear ha0; have hx01 : Ex w w1 := hx0.trans hx1)
      | (go_at_call 30; go_loud (refine (snap_readManifest A' c' d _ hrd).mono ?_); rintro e w2 ⟨x, y, z, rfl, hm, hx2⟩; rw [← HEr.out]; have hx02 : Ex w w2 := hx01.trans hx2; (obtain ⟨⟨q0, f0⟩, ⟨q1, f1⟩, ⟨q2, f2⟩, ⟨q3, f3⟩, ⟨q4, f4⟩, ⟨q5, f5⟩⟩ := (hZ2.ex hx1).ex hx2); (obtain ⟨⟨p0, -⟩, ⟨p1, -⟩, ⟨p2, -⟩, ⟨p3, -⟩, ⟨p4, -⟩, ⟨p5, -⟩⟩ := (hZ3.ex hx1).ex hx2); have hw2 : w.heap.size + 1 < w2.heap.size := World.block_lt_of_cell? w2 _ p0; have hw20 : w.heap.size < w2.heap.size := Nat.lt_of_succ_lt hw2))
  · refine bodyPost_ret (v := .tuple #[.agg #[.int .i64 0, .int .i64 0, .slice none 0 0, .bool false, .int .i64 0, .slice none 0 0], .int .i64 er]) (by simp [results, Tryz.results12, go_sem, q0, q1, q2, q3, q4, q5, hw20]) rfl (DecR.none hs.out (by with_reducible (repeat' first | exact hx02 | refine Ex.alloc ?_ _ | refine Ex.set ?_ (Nat.le_refl _) _)))
theorem sizeS1 : (Tryz.prog.info? 22).map (·.size) = some 1 := by kernel_rfl
theorem snap_Decode_3 (A : Option Addr) (c : Nat) (b : List UInt8) (w : World) (hr : Rd eB w A c b) (hl : b.length ≤ 1000000000000)
    (ds : List (List UInt8)) (HDs : Hid (ds = (allF b).1)) (h1 : ((allF b).2 != 0) = false) (h2 : ((ds.length : Int) == 0) = false) (hpos : 0 < ds.length) (d : List UInt8) (HD : Hid (d = ds[0])) (r : List (List UInt8)) (HR : Hid (r = ds.drop 1)) (fl : List UInt8) (HFl : Hid (fl = r.flatten)) (hfl : fl.length ≤ 1000000000000)
    (HEr : Hid ((readM d).2.2.2 = 0)) (mi ms mz : Nat) (HMi : Hid (mi = (readM d).1)) (HMs : Hid (ms = (readM d).2.1)) (HMz : Hid (mz = (readM d).2.2.1))
    (sm : Nat) (HSm : Hid (sm = sum fl)) (hsm : sm < 4294967296) (er2 : Int) (HEr2 : Hid (er2 = (readN fl).2)) (s : Snp) (HSn : Hid (s = (readN fl).1)) (hsl : er2 = 0 → s.st.l.length ≤ 4000000000000)
    (hcase : (((fl.length : Int) != (ms : Int)) = true ∧ Hid (decN b = (snZ, 16))) ∨ (((fl.length : Int) != (ms : Int)) = false ∧ Hid (cutN r = false) ∧ Hid (decN b = (snZ, 3)))
      ∨ (((fl.length : Int) != (ms : Int)) = false ∧ Hid (cutN r = true) ∧ ((sm : Int) != (mz : Int)) = true ∧ Hid (decN b = (snZ, 4)))
      ∨ (((fl.length : Int) != (ms : Int)) = false ∧ Hid (cutN r = true) ∧ ((sm : Int) != (mz : Int)) = false ∧ (er2 != 0) = true ∧ Hid (decN b = (snZ, er2)))
      ∨ (((fl.length : Int) != (ms : Int)) = false ∧ Hid (cutN r = true) ∧ ((sm : Int) != (mz : Int)) = false ∧ (er2 != 0) = false ∧ Hid (mayN ⟨mi, s.st, s.tab⟩ = false) ∧ Hid (decN b = (snZ, 1)))
      ∨ (((fl.length : Int) != (ms : Int)) = false ∧ Hid (cutN r = true) ∧ ((sm : Int) != (mz : Int)) = false ∧ (er2 != 0) = false ∧ Hid (mayN ⟨mi, s.st, s.tab⟩ = true) ∧ Hid (decN b = (⟨mi, s.st, s.tab⟩, 0)))) :
    Calls Tryz.prog 12 #[.slice A b.length c] w (DecR b w) := by
  have hZ1 : Sn0 (w.alloc snC) w.heap.size := sn0_new w
  have hZ2 : Sn0 ((w.alloc snC).alloc snC) w.heap.size := hZ1.ex ((Ex.refl _).alloc _)
  have hZ3 : Sn0 ((w.alloc snC).alloc snC) (w.heap.size + 1) := by have h := sn0_new (w.alloc snC); simpa using h
  have hx0 : Ex w ((w.alloc snC).alloc snC) := ((Ex.refl w).alloc _).alloc _
  have hfl7 : fl.length ≤ 70000000000000 := by omega
  have HZ := Lib.hid (And.intro hZ2 hZ3)
  have HSl := Lib.hid hsl
  clear hZ1 hZ2 hZ3 hsl
  rcases hcase with ⟨k1, hs⟩ | ⟨k1, k2, hs⟩ | ⟨k1, k2, k3, hs⟩ | ⟨k1, k2, k3, k4, hs⟩ | ⟨k1, k2, k3, k4, k5, hs⟩ | ⟨k1, k2, k3, k4, k5, hs⟩
  all_goals
    go_enter Tryz.func12, Tryz.ntmps12
    go_wp2_with (first
      | (go_at_call 29; go_loud (refine (frame_All A c b _ (hr.ex hx0) hl).mono ?_); rintro e w1 ⟨v1, rfl, ho1, hx1⟩; (obtain ⟨A1, c1, hv1, hr1⟩ := ho1.rd); rw [hv1]; rw [← HDs.out] at hr1 ⊢; (obtain ⟨A2, c2, ys, hys, r2, -, run2⟩ := hr1.cut 45 22 (P := Tryz.prog) Tryz.underlying45 sizeS1 1 ds.length (by omega) (Nat.le_refl _)); have run2' := run2 rfl 1 rfl; have hys' : ys = r := (by rw [hys.out, HR.out, List.take_length]); subst hys'; (obtain ⟨ad, A', c', rfl, hc0, hrd⟩ := hr1.at_ hpos); have ha0 : ad.add 0 = ad := (by unfold Addr.add; rw [if_pos rfl]); rw [ha0] at hc0; rw [← HD.out] at hc0 hrd; clear ha0 run2; have hx01 : Ex w w1 := hx0.trans hx1)
      | (go_at_call 30; go_loud (refine (snap_readManifest A' c' d _ hrd).mono ?_); rintro e w2 ⟨x, y, z, rfl, hm, hx2⟩; (obtain ⟨hm1, hm2, hm3⟩ := hm.out HEr.out); rw [← HMi.out] at hm1; rw [← HMs.out] at hm2; rw [← HMz.out] at hm3; subst hm1 hm2 hm3; rw [HEr.out]; have hx02 : Ex w w2 := hx01.trans hx2; have hcd := hx2.cell hc0; have hcd3 := ((Ex.refl w2).alloc (.cells #[.int .i64 mi, .int .i64 ms, .int .u64 mz] 75)).cell hcd)
      | (go_at_call 31; go_loud (refine (slices_ConcatB A2 c2 ys _ (r2.ex (hx2.trans ((Ex.refl _).alloc _))) (by rw [← HFl.out]; exact hfl7)).mono ?_); rintro e w4 ⟨v4, rfl, ho4, hx4⟩; rw [← HFl.out] at ho4; (obtain ⟨A4, c4, hv4, hr4⟩ := ho4.rd); rw [hv4]; (obtain ⟨m0, n0⟩ := hx4.both (new_cell (u := .int .i64 mi) w2 #[.int .i64 mi, .int .i64 ms, .int .u64 mz] 75 0 rfl)); (obtain ⟨m1, n1⟩ := hx4.both (new_cell (u := .int .i64 ms) w2 #[.int .i64 mi, .int .i64 ms, .int .u64 mz] 75 1 rfl)); (obtain ⟨m2, n2⟩ := hx4.both (new_cell (u := .int .u64 mz) w2 #[.int .i64 mi, .int .i64 ms, .int .u64 mz] 75 2 rfl)); have hx24 : Ex w2 w4 := ((Ex.refl w2).alloc _).trans hx4; have hx04 := hx02.trans hx24; have HS4 := Lib.hid (((HZ.out.1.ex hx1).ex hx2).ex hx24); have HT4 := Lib.hid (((HZ.out.2.ex hx1).ex hx2).ex hx24); (obtain ⟨⟨q0, f0⟩, ⟨q1, f1⟩, ⟨q2, f2⟩, ⟨q3, f3⟩, ⟨q4, f4⟩, ⟨q5, f5⟩⟩ := HS4.out); (obtain ⟨⟨p0, -⟩, ⟨p1, -⟩, ⟨p2, -⟩, ⟨p3, -⟩, ⟨p4, -⟩, ⟨p5, -⟩⟩ := HT4.out); have hw4 : w.heap.size < w4.heap.size := World.block_lt_of_cell? w4 _ q0)
      | (go_at_call 32; go_loud (refine (snap_cut A2 c2 ys _ (r2.ex (hx2.trans hx24))).mono ?_); rintro e w5 ⟨rfl, rfl⟩; rw [k2.out]))
  · refine bodyPost_ret (v := .tuple #[.agg #[.int .i64 0, .int .i64 0, .slice none 0 0, .bool false, .int .i64 0, .slice none 0 0], .int .i64 16]) (by simp [results, Tryz.results12, go_sem, q0, q1, q2, q3, q4, q5, hw4]) rfl (DecR.none hs.out (by with_reducible (repeat' first | exact hx04 | refine Ex.set ?_ (Nat.le_refl _) _)))
  · refine bodyPost_ret (v := .tuple #[.agg #[.int .i64 0, .int .i64 0, .slice none 0 0, .bool false, .int .i64 0, .slice none 0 0], .int .i64 3]) (by simp [results, Tryz.results12, go_sem, q0, q1, q2, q3, q4, q5, hw4]) rfl (DecR.none hs.out (by with_reducible (repeat' first | exact hx04 | refine Ex.set ?_ (Nat.le_refl _) _)))
  all_goals
    have l2 := lat_cell m2
    refine wp_region_ex (by kernel_rfl) (by kernel_rfl) ?_
    repeat (go_big_quiet_step ((go_at_call 33; exact lat_call (v := .int .u32 (sm : Int)) (fun W hW => by rw [HSm.out]; exact crc_Sum A4 c4 fl W (hr4.ex hW)))))
    refine wpQuiet_nil ?_
    rintro _ ⟨y5, rfl⟩
    clear l2
    have hxy : Ex w y5.w' := hx04.trans y5.ex
    have hry := hr4.ex y5.ex
    have M0 := y5.ex.cell m0
    have HSy := Lib.hid (HS4.out.ex y5.ex)
    have HTy := Lib.hid (HT4.out.ex y5.ex)
    clear q0 q1 q2 q3 q4 q5 f0 f1 f2 f3 f4 f5 p0 p1 p2 p3 p4 p5 m0 m1 m2 n0 n1 n2 hcd hcd3 hc0 run2'
    obtain ⟨⟨q0, f0⟩, ⟨q1, f1⟩, ⟨q2, f2⟩, ⟨q3, f3⟩, ⟨q4, f4⟩, ⟨q5, f5⟩⟩ := HSy.out
    obtain ⟨⟨p0, -⟩, ⟨p1, -⟩, ⟨p2, -⟩, ⟨p3, -⟩, ⟨p4, -⟩, ⟨p5, -⟩⟩ := HTy.out
    have hwy : w.heap.size < y5.w'.heap.size := World.block_lt_of_cell? _ _ q0
    go_wp2_with (first
      | (go_at_call 34; go_loud (refine (snap_read A4 c4 fl _ hry hfl).mono ?_); rintro e w6 ⟨ix, kind, B, nl, db, sd, tt, C, nt, cc, rfl, hrd6, hx6⟩; rw [← HEr2.out]; have hr6 := hrd6.out; rw [← HEr2.out, ← HSn.out] at hr6; have HR6 := Lib.hid hr6; clear hr6 hrd6; have hxw6 : Ex w w6 := hxy.trans hx6; have M6 := hx6.cell M0; have HS6 := Lib.hid (HSy.out.ex hx6); have HT6 := Lib.hid (HTy.out.ex hx6); clear q0 q1 q2 q3 q4 q5 f0 f1 f2 f3 f4 f5 p0 p1 p2 p3 p4 p5; (obtain ⟨⟨q0, f0⟩, ⟨q1, f1⟩, ⟨q2, f2⟩, ⟨q3, f3⟩, ⟨q4, f4⟩, ⟨q5, f5⟩⟩ := HS6.out); (obtain ⟨⟨p0, -⟩, ⟨p1, -⟩, ⟨p2, -⟩, ⟨p3, -⟩, ⟨p4, -⟩, ⟨p5, -⟩⟩ := HT6.out); have hw6 : w.heap.size < w6.heap.size := World.block_lt_of_cell? _ _ q0; have hp6 : w.heap.size + 1 < w6.heap.size := World.block_lt_of_cell? _ _ p0; have hM6 : w2.heap.size < w6.heap.size := World.block_lt_of_cell? _ _ M6; clear M0 hw4 hx6)
      | (go_at_call 35; have he6 : er2 = 0 := (by rw [bne_eq_false_iff_eq] at k4; exact k4); (obtain ⟨rfl, rfl, rfl, rfl, rfl, hB, hC, hBn, hCn⟩ := HR6.out he6); have Hn := Lib.hid (And.intro hBn hCn); clear hBn hCn; go_loud (refine (snap_May ⟨mi, s.st, s.tab⟩ B db C cc _ (hB.ex ((Ex.refl _).alloc _)) (HSl.out he6) (hC.ex ((Ex.refl _).alloc _))).mono ?_); rintro e w7 ⟨rfl, hx7⟩; rw [k5.out]; clear he6; have hx67 : Ex w6 w7 := ((Ex.refl w6).alloc _).trans hx7; have hB7 := hB.ex hx67; have hC7 := hC.ex hx67; have hxw7 : Ex w w7 := hxw6.trans hx67; have HS7 := Lib.hid (HS6.out.ex hx67); have HT7 := Lib.hid (HT6.out.ex hx67); clear q0 q1 q2 q3 q4 q5 f0 f1 f2 f3 f4 f5 p0 p1 p2 p3 p4 p5; (obtain ⟨⟨q0, f0⟩, ⟨q1, f1⟩, ⟨q2, f2⟩, ⟨q3, f3⟩, ⟨q4, f4⟩, ⟨q5, f5⟩⟩ := HS7.out); (obtain ⟨⟨p0, -⟩, ⟨p1, -⟩, ⟨p2, -⟩, ⟨p3, -⟩, ⟨p4, -⟩, ⟨p5, -⟩⟩ := HT7.out); have hw7 : w.heap.size < w7.heap.size := World.block_lt_of_cell? _ _ q0; have g0 := (hx7.both (new_cell (u := .int .i64 mi) w6 #[.int .i64 mi, .int .i64 s.st.kind, .slice B s.st.l.length db, .bool s.st.sealed, .int .i64 s.st.to, .slice C s.tab.length cc] 39 0 rfl)).1; have g1 := (hx7.both (new_cell (u := .int .i64 s.st.kind) w6 #[.int .i64 mi, .int .i64 s.st.kind, .slice B s.st.l.length db, .bool s.st.sealed, .int .i64 s.st.to, .slice C s.tab.length cc] 39 1 rfl)).1; have g2 := (hx7.both (new_cell (u := .slice B s.st.l.length db) w6 #[.int .i64 mi, .int .i64 s.st.kind, .slice B s.st.l.length db, .bool s.st.sealed, .int .i64 s.st.to, .slice C s.tab.length cc] 39 2 rfl)).1; have g3 := (hx7.both (new_cell (u := .bool s.st.sealed) w6 #[.int .i64 mi, .int .i64 s.st.kind, .slice B s.st.l.length db, .bool s.st.sealed, .int .i64 s.st.to, .slice C s.tab.length cc] 39 3 rfl)).1; have g4 := (hx7.both (new_cell (u := .int .i64 s.st.to) w6 #[.int .i64 mi, .int .i64 s.st.kind, .slice B s.st.l.length db, .bool s.st.sealed, .int .i64 s.st.to, .slice C s.tab.length cc] 39 4 rfl)).1; have g5 := (hx7.both (new_cell (u := .slice C s.tab.length cc) w6 #[.int .i64 mi, .int .i64 s.st.kind, .slice B s.st.l.length db, .bool s.st.sealed, .int .i64 s.st.to, .slice C s.tab.length cc] 39 5 rfl)).1))
  · refine bodyPost_ret (v := .tuple #[.agg #[.int .i64 0, .int .i64 0, .slice none 0 0, .bool false, .int .i64 0, .slice none 0 0], .int .i64 4]) (by simp [results, Tryz.results12, go_sem, q0, q1, q2, q3, q4, q5, hwy]) rfl (DecR.none hs.out (by with_reducible (repeat' first | exact hxy | refine Ex.set ?_ (Nat.le_refl _) _)))
  · refine bodyPost_ret (v := .tuple #[.agg #[.int .i64 0, .int .i64 0, .slice none 0 0, .bool false, .int .i64 0, .slice none 0 0], .int .i64 er2]) (by simp [results, Tryz.results12, go_sem, q0, q1, q2, q3, q4, q5, hw6]) rfl (DecR.none hs.out (by with_reducible (repeat' first | exact hxw6 | refine Ex.alloc ?_ _ | refine Ex.set ?_ (Nat.le_refl _) _)))
  · refine bodyPost_ret (v := .tuple #[.agg #[.int .i64 0, .int .i64 0, .slice none 0 0, .bool false, .int .i64 0, .slice none 0 0], .int .i64 1]) (by simp [results, Tryz.results12, go_sem, q0, q1, q2, q3, q4, q5, hw7]) rfl (DecR.none hs.out (by with_reducible (repeat' first | exact hxw7 | refine Ex.set ?_ (Nat.le_refl _) _)))
  · refine bodyPost_ret (v := .tuple #[.agg #[.int .i64 mi, .int .i64 s.st.kind, .slice B s.st.l.length db, .bool s.st.sealed, .int .i64 s.st.to, .slice C s.tab.length cc], .int .i64 0]) (by simp [results, Tryz.results12, go_sem, q0, q1, q2, q3, q4, q5, hw7]) rfl ?_
    refine ⟨B, db, C, cc, by rw [hs.out], ?_, ?_, ?_, ?_, ?_⟩
    · rw [hs.out]
      with_reducible
        repeat' first
          | exact hB7
          | refine Rd.grown ?_ (gb_setp _ _ _) (fun a ha e => by have h8 := Hn.out.1 a ha; have := Option.some.inj e; simp only at this; omega)
    · rw [hs.out]
      with_reducible
        repeat' first
          | exact hC7
          | refine Rd.grown ?_ (gb_setp _ _ _) (fun a ha e => by have h8 := Hn.out.2 a ha; have := Option.some.inj e; simp only at this; omega)
    · intro a ha; have := Hn.out.1 a ha; omega
    · intro a ha; have := Hn.out.2 a ha; omega
    · with_reducible (repeat' first | exact hxw7 | refine Ex.set ?_ (Nat.le_refl _) _)
theorem snap_Decode (A : Option Addr) (c : Nat) (b : List UInt8) (w : World) (hr : Rd eB w A c b) (hl : b.length ≤ 1000000000000) :
    Calls Tryz.prog 12 #[.slice A b.length c] w (DecR b w) := by
  by_cases h1 : (allF b).2 ≠ 0
  · exact snap_Decode_1 A c b w hr hl (.inl ⟨by rw [bne_iff_ne]; exact h1, by rw [Hid, decN, if_pos h1]⟩)
  · have h1b : ((allF b).2 != 0) = false := by rw [bne_eq_false_iff_eq]; exact Classical.byContradiction h1
    cases hds : (allF b).1 with
    | nil => exact snap_Decode_1 A c b w hr hl (.inr ⟨h1b, by rw [hds]; rfl, by rw [Hid, decN, if_neg h1, hds]⟩)
    | cons d r =>
      have hspec : decN b = (if (readM d).2.2.2 ≠ 0 then (snZ, (readM d).2.2.2) else if r.flatten.length ≠ (readM d).2.1 then (snZ, 16) else if cutN r = false then (snZ, 3) else if sum r.flatten ≠ (readM d).2.2.1 then (snZ, 4) else
        if (readN r.flatten).2 ≠ 0 then (snZ, (readN r.flatten).2) else if mayN ⟨(readM d).1, (readN r.flatten).1.st, (readN r.flatten).1.tab⟩ = false then (snZ, 1) else (⟨(readM d).1, (readN r.flatten).1.st, (readN r.flatten).1.tab⟩, 0)) := by
        unfold decN; rw [if_neg h1, hds]
      have hfl := allF_flat b
      rw [hds, List.flatten_cons, List.length_append] at hfl
      have h2 : (((d :: r).length : Int) == 0) = false := by rw [beq_eq_false_iff_ne, List.length_cons]; omega
      by_cases h3 : (readM d).2.2.2 ≠ 0
      · exact snap_Decode_2 A c b w hr hl (d :: r) hds.symm h1b h2 (by simp) d rfl r rfl (by omega) _ rfl _ _ _ rfl rfl rfl ⟨by rw [bne_iff_ne]; exact h3, by rw [Hid, hspec, if_pos h3]⟩
      · have h3' : (readM d).2.2.2 = 0 := Classical.byContradiction h3
        rw [if_neg h3] at hspec
        refine snap_Decode_3 A c b w hr hl (d :: r) hds.symm h1b h2 (by simp) d rfl r rfl r.flatten rfl (by omega) h3' _ _ _ rfl rfl rfl _ rfl (more_lt 0 _) _ rfl _ rfl (fun h => ?_) ?_
        · have := readN_ok (w := r.flatten) (s := (readN r.flatten).1) (by rw [← h])
          have := (mayS_all this.2.1).2.1
          omega
        · by_cases h4 : r.flatten.length ≠ (readM d).2.1
          · exact .inl ⟨by rw [bne_iff_ne]; omega, by rw [Hid, hspec, if_pos h4]⟩
          · have h4b : ((r.flatten.length : Int) != ((readM d).2.1 : Int)) = false := by rw [bne_eq_false_iff_eq]; omega
            rw [if_neg h4] at hspec
            cases h5 : cutN r with
            | false => exact .inr (.inl ⟨h4b, rfl, by rw [Hid, hspec, if_pos h5]⟩)
            | true =>
              rw [if_neg (by rw [h5]; decide)] at hspec
              by_cases h6 : sum r.flatten ≠ (readM d).2.2.1
              · exact .inr (.inr (.inl ⟨h4b, rfl, by rw [bne_iff_ne]; omega, by rw [Hid, hspec, if_pos h6]⟩))
              · have h6b : ((sum r.flatten : Int) != ((readM d).2.2.1 : Int)) = false := by rw [bne_eq_false_iff_eq]; omega
                rw [if_neg h6] at hspec
                by_cases h7 : (readN r.flatten).2 ≠ 0
                · exact .inr (.inr (.inr (.inl ⟨h4b, rfl, h6b, by rw [bne_iff_ne]; exact h7, by rw [Hid, hspec, if_pos h7]⟩)))
                · have h7b : ((readN r.flatten).2 != 0) = false := by rw [bne_eq_false_iff_eq]; exact Classical.byContradiction h7
                  rw [if_neg h7] at hspec
                  cases h8 : mayN ⟨(readM d).1, (readN r.flatten).1.st, (readN r.flatten).1.tab⟩ with
                  | false => exact .inr (.inr (.inr (.inr (.inl ⟨h4b, rfl, h6b, h7b, rfl, by rw [Hid, hspec, if_pos h8]⟩))))
                  | true => exact .inr (.inr (.inr (.inr (.inr ⟨h4b, rfl, h6b, h7b, rfl, by rw [Hid, hspec, if_neg (by rw [h8]; decide)]⟩))))
end Go.Proofs.YtdghbnkegahdnaaGreat.B
