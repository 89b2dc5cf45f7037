/- The walk of the reference of states as bytes. -/
import Derived.Test.YtdghbnkegahdnaaGreatRef9W
import Derived.Test.YtdghbnkegahdnaaGreatCodecV
set_option linter.unusedVariables false
set_option linter.unusedSimpArgs false
set_option maxRecDepth 100000
set_option maxHeartbeats 2000000
namespace Go.Proofs.YtdghbnkegahdnaaGreat.B
open Go Go.RowKit Go.Proofs

def DecSR (l : List UInt8) (w : World) (e : Ending) (w' : World) : Prop := ∃ (B : Option Addr) (d : Nat), e = .returned (.tuple #[.agg #[.int .i64 (decS l).1.kind, .slice B (decS l).1.l.length d, .bool (decS l).1.sealed, .int .i64 (decS l).1.to], .int .i64 (decS l).2]) ∧ Rd eI w' B d (decS l).1.l ∧ (∀ a, B = some a → w.heap.size ≤ a.block) ∧ Ex w w'
theorem DecSR.none {l : List UInt8} {w w' : World} {er : Int} (h : decS l = (stZ, er)) (hx : Ex w w') : DecSR l w (.returned (.tuple #[.agg #[.int .i64 0, .slice .none 0 0, .bool false, .int .i64 0], .int .i64 er])) w' :=
  ⟨.none, 0, by rw [h]; rfl, by rw [h]; exact Rd.nil _ _ _ _, (fun a h => by cases h), hx⟩
abbrev stC : Obj := .cells #[.int .i64 0, .slice none 0 0, .bool false, .int .i64 0] 36
theorem st0_new (w : World) : StAt (w.alloc stC) w.heap.size 0 (.slice none 0 0) false 0 := ⟨new_cell w _ _ 0 rfl, new_cell w _ _ 1 rfl, new_cell w _ _ 2 rfl, new_cell w _ _ 3 rfl⟩
theorem ref05_DecodeState_bad (A : Option Addr) (c : Nat) (l : List UInt8) (w : World) (hr : Rd eB w A c l) (hl : l.length ≤ 70000000000000)
    (i x : Nat) (l1 : List UInt8) (j y : Nat) (l2 : List UInt8) (k z : Nat) (HI : Hid (i = (get l).2)) (HX : Hid (x = (get l).1)) (HL1 : Hid (l1 = l.drop i)) (HJ : Hid (j = (get l1).2)) (HY : Hid (y = (get l1).1)) (HL2 : Hid (l2 = l1.drop j)) (HK : Hid (k = (get l2).2)) (HZ : Hid (z = (get l2).1))
    (hil : i ≤ l.length) (hjl : i + j ≤ l.length) (hs : Hid (decS l = (stZ, 3)))
    (hcase : ((i : Int) == 0) = true ∨ (((i : Int) == 0) = false ∧ ((j : Int) == 0) = true) ∨ (((i : Int) == 0) = false ∧ ((j : Int) == 0) = false ∧ ((k : Int) == 0) = true) ∨ (((i : Int) == 0) = false ∧ ((j : Int) == 0) = false ∧ ((k : Int) == 0) = false ∧ (3 : Int) < (y : Int)) ∨ (((i : Int) == 0) = false ∧ ((j : Int) == 0) = false ∧ ((k : Int) == 0) = false ∧ ¬ (3 : Int) < (y : Int) ∧ (128 : Int) < (z : Int))) :
    Calls Tryz.prog 75 #[.slice A l.length c] w (DecSR l w) := by
  obtain ⟨A1, c1, y1, hy1, run1, r1⟩ := cut_from (P := Tryz.prog) w 22 5 Tryz.underlying22 sizeB hr (i : Int) (by omega) (by omega)
  obtain rfl : y1 = l1 := by rw [hy1.out, HL1.out, Int.toNat_natCast]
  obtain ⟨A2, c2, y2, hy2, run2, r2⟩ := cut_from (P := Tryz.prog) w 22 5 Tryz.underlying22 sizeB hr ((i : Int) + (j : Int)) (by omega) (by omega)
  obtain rfl : y2 = l2 := by rw [hy2.out, HL2.out, HL1.out, show ((i : Int) + (j : Int)).toNat = i + j by omega, List.drop_drop]
  have gw := gw_of _ _ hjl hl
  rw [show ((i + j : Nat) : Int) = (i : Int) + (j : Int) from by push_cast; rfl] at gw
  have hx0 : Ex w (w.alloc stC) := (Ex.refl w).alloc _
  obtain ⟨⟨q0, f0⟩, ⟨q1, f1⟩, ⟨q2, f2⟩, ⟨q3, f3⟩⟩ := st0_new w
  rcases hcase with k1 | ⟨k1, k2⟩ | ⟨k1, k2, k3⟩ | ⟨k1, k2, k3, k4⟩ | ⟨k1, k2, k3, k4, k5⟩
  all_goals
    go_enter Tryz.func75, Tryz.ntmps75
    go_wp2_with (first
      | (go_at_call_of 72 A2; refine (ref01_Get A2 c2 y2 _ (r2.ex hx0)).mono ?_; rintro e w1 ⟨rfl, rfl⟩; rw [← HZ.out, ← HK.out])
      | (go_at_call_of 72 A1; refine (ref01_Get A1 c1 y1 _ (r1.ex hx0)).mono ?_; rintro e w1 ⟨rfl, rfl⟩; rw [← HY.out, ← HJ.out])
      | (go_at_call 72; refine (ref01_Get A c l _ (hr.ex hx0)).mono ?_; rintro e w1 ⟨rfl, rfl⟩; rw [← HX.out, ← HI.out]))
    refine bodyPost_ret (v := .tuple #[.agg #[.int .i64 0, .slice none 0 0, .bool false, .int .i64 0], .int .i64 3]) (by simp [results, Tryz.results75, go_sem]) rfl (DecSR.none hs.out (by with_reducible (repeat' first | exact hx0 | refine Ex.alloc ?_ _ | refine Ex.set ?_ (Nat.le_refl _) _)))
theorem ref05_DecodeState_good (A : Option Addr) (c : Nat) (l : List UInt8) (w : World) (hr : Rd eB w A c l) (hl : l.length ≤ 70000000000000)
    (i x : Nat) (l1 : List UInt8) (j y : Nat) (l2 : List UInt8) (k z : Nat) (HI : Hid (i = (get l).2)) (HX : Hid (x = (get l).1)) (HL1 : Hid (l1 = l.drop i)) (HJ : Hid (j = (get l1).2)) (HY : Hid (y = (get l1).1)) (HL2 : Hid (l2 = l1.drop j)) (HK : Hid (k = (get l2).2)) (HZ : Hid (z = (get l2).1))
    (hil : i ≤ l.length) (hjl : i + j ≤ l.length) (hkl : i + j + k ≤ l.length) (k1 : ((i : Int) == 0) = false) (k2 : ((j : Int) == 0) = false) (k3 : ((k : Int) == 0) = false) (k4 : ¬ (3 : Int) < (y : Int)) (k5 : ¬ (128 : Int) < (z : Int))
    (sd : Bool) (tt : Int) (hsd : (0 < y ∧ sd = true ∧ Hid (tt = (y : Int) - 1)) ∨ (¬ 0 < y ∧ sd = false ∧ tt = 0))
    (hs : Hid (decS l = if (getMany z (l.drop (i + j + k))).2.2 = false ∨ (getMany z (l.drop (i + j + k))).2.1 ≠ [] then (stZ, 3) else if mayS ⟨x, (getMany z (l.drop (i + j + k))).1, sd, tt⟩ = false then (stZ, 1) else (⟨x, (getMany z (l.drop (i + j + k))).1, sd, tt⟩, 0))) :
    Calls Tryz.prog 75 #[.slice A l.length c] w (DecSR l w) := by
  obtain ⟨A1, c1, y1, hy1, run1, r1⟩ := cut_from (P := Tryz.prog) w 22 5 Tryz.underlying22 sizeB hr (i : Int) (by omega) (by omega)
  obtain rfl : y1 = l1 := by rw [hy1.out, HL1.out, Int.toNat_natCast]
  obtain ⟨A2, c2, y2, hy2, run2, r2⟩ := cut_from (P := Tryz.prog) w 22 5 Tryz.underlying22 sizeB hr ((i : Int) + (j : Int)) (by omega) (by omega)
  obtain rfl : y2 = l2 := by rw [hy2.out, HL2.out, HL1.out, show ((i : Int) + (j : Int)).toNat = i + j by omega, List.drop_drop]
  have hz128 : z ≤ 128 := by omega
  have hx0 : Ex w (w.alloc stC) := (Ex.refl w).alloc _
  have Hw1 : Hid (wrap64 ((i : Int) + (j : Int)) = (i : Int) + (j : Int)) := by
    have gw := gw_of _ _ hjl hl
    rwa [show ((i + j : Nat) : Int) = (i : Int) + (j : Int) from by push_cast; rfl] at gw
  have Hw2 : Hid (wrap64 ((i : Int) + (j : Int) + (k : Int)) = (i : Int) + (j : Int) + (k : Int)) := by
    have gw := gw_of _ _ hkl hl
    rwa [show ((i + j + k : Nat) : Int) = (i : Int) + (j : Int) + (k : Int) from by push_cast; rfl] at gw
  rcases hsd with ⟨hy0, rfl, ht⟩ | ⟨hy0, rfl, rfl⟩
  · have ht2 := ht.out
    rw [ht2] at hs
    clear ht2
    have gw1 := Hw1.out
    have gw2 := Hw2.out
    go_enter Tryz.func75, Tryz.ntmps75
    go_wp2_with (first
      | (go_at_call_of 72 A2; refine (ref01_Get A2 c2 y2 _ (r2.ex hx0)).mono ?_; rintro e w1 ⟨rfl, rfl⟩; rw [← HZ.out, ← HK.out])
      | (go_at_call_of 72 A1; refine (ref01_Get A1 c1 y1 _ (r1.ex hx0)).mono ?_; rintro e w1 ⟨rfl, rfl⟩; rw [← HY.out, ← HJ.out])
      | (go_at_call 72; refine (ref01_Get A c l _ (hr.ex hx0)).mono ?_; rintro e w1 ⟨rfl, rfl⟩; rw [← HX.out, ← HI.out]))
    go_loopw [11, 12] (fun at_ n wr => ∃ (p q : Nat) (xs : List Int) (v : Value), at_ = .int .i64 p ∧ n = .int .i64 q ∧ q ≤ z ∧ p ≤ l.length ∧ Hid (xs.length = q) ∧ StAt wr (w.heap.size + 1) x v true ((y : Int) - 1) ∧ StAt wr w.heap.size 0 (.slice none 0 0) false 0 ∧ Own eI 3 wr (w.heap.size + 2) v xs ∧ Ex w wr ∧ Hid (getMany z (l.drop (i + j + k)) = (xs ++ (getMany (z - q) (l.drop p)).1, (getMany (z - q) (l.drop p)).2.1, (getMany (z - q) (l.drop p)).2.2))) (fun _ n _ => (z - intOf n).toNat)
    case atStart => exact ⟨i + j + k, 0, [], _, vint (by push_cast; rfl), rfl, by omega, hkl, rfl, ⟨new_cell1 w _ _ _ 0 rfl, new_cell1 w _ _ _ 1 rfl, new_cell1 w _ _ _ 2 rfl, new_cell1 w _ _ _ 3 rfl⟩, (st0_new w).ex ((Ex.refl _).alloc _), Own.nil _ _ _ _, hx0.alloc _, by rw [Nat.sub_zero]; rfl⟩
    case round =>
      clear gw1 gw2
      obtain ⟨p, q, xs, v, rfl, rfl, hq, hp, hxl, hS, hT, ho, hx, hg⟩ := hrel
      obtain ⟨A9, c9, rfl, hr9⟩ := ho.rd
      have hlt9 : w.heap.size + 1 < wr.heap.size := World.block_lt_of_cell? _ _ hS.1.1
      have HS := Lib.hid hS
      have HT := Lib.hid hT
      obtain ⟨⟨s0, t0⟩, ⟨s1, t1⟩, ⟨s2, t2⟩, ⟨s3, t3⟩⟩ := hS
      by_cases hlt : q < z
      · have hgm := get_more z q hlt (l.drop p)
        obtain ⟨A0, c0, y0, hy0, run0, r0⟩ := cut_from (P := Tryz.prog) wr 22 5 Tryz.underlying22 sizeB (hr.ex hx) (p : Int) (by omega) (by omega)
        have e0 : y0 = l.drop p := by have h := hy0.out; rw [Int.toNat_natCast] at h; exact h
        obtain ⟨n0, hn0⟩ : ∃ n, n = (getS y0).1 := ⟨_, rfl⟩
        obtain ⟨i3, hi3⟩ : ∃ i, i = (getS y0).2 := ⟨_, rfl⟩
        have z3 := getS_le y0
        rw [← hi3] at z3
        have hp3 : p + i3 ≤ l.length := by have : y0.length + p = l.length := (by rw [e0, List.length_drop]; omega); omega
        rw [← e0, ← hn0, ← hi3, e0, List.drop_drop] at hgm
        have HN := Lib.hid hn0; have HI3 := Lib.hid hi3
        clear hn0 hi3 z3 e0 hy0
        by_cases h3 : i3 = 0
        · have e3 : ((i3 : Int) == 0) = true := by rw [h3]; rfl
          have hs : Hid (decS l = (stZ, 3)) := by
            rw [Hid, hs.out, if_pos (.inl (by rw [hg.out, hgm, h3]; simp))]
          clear hgm h3 hg
          obtain ⟨⟨q0, f0⟩, ⟨q1, f1⟩, ⟨q2, f2⟩, ⟨q3, f3⟩⟩ := hT
          have hw9 : w.heap.size < wr.heap.size := Nat.lt_of_succ_lt hlt9
          go_wp2_with (go_at_call 117; refine (ref01_GetSigned A0 c0 y0 _ r0).mono ?_; rintro e w1 ⟨rfl, rfl⟩; rw [← HN.out, ← HI3.out])
          refine bodyPost_ret (v := .tuple #[.agg #[.int .i64 0, .slice none 0 0, .bool false, .int .i64 0], .int .i64 3]) (by simp [results, Tryz.results75, go_sem, q0, q1, q2, q3, hw9]) rfl (DecSR.none hs.out (by with_reducible (repeat' first | exact hx | refine Ex.alloc ?_ _ | refine Ex.set ?_ (Nat.le_refl _) _)))
        · have e3 : ((i3 : Int) == 0) = false := by rw [beq_eq_false_iff_ne]; omega
          have hst : Hid (getMany z (l.drop (i + j + k)) = ((xs ++ [n0]) ++ (getMany (z - (q + 1)) (l.drop (p + i3))).1, (getMany (z - (q + 1)) (l.drop (p + i3))).2.1, (getMany (z - (q + 1)) (l.drop (p + i3))).2.2)) := by
            rw [Hid, hg.out, hgm, decide_eq_true (show 0 < i3 by omega), Bool.true_and, List.append_assoc]; rfl
          have hnr : (Value.slice A9 xs.length c9).ownBlock ≠ some (w.heap.size + 1) := fun e => by have := (ho.lt _ e).1; omega
          have hnr2 : (Value.slice A9 xs.length c9).ownBlock ≠ some w.heap.size := fun e => by have := (ho.lt _ e).1; omega
          have hlen : Hid ((xs.length + [n0].length) * 8 ≤ 140737488355328) := by
            have := hxl.out
            rw [Hid, this, List.length_singleton]; omega
          have Hno : Hid (∀ k', (Value.slice A9 xs.length c9).ownBlock = some k' → w.heap.size ≤ k') := fun k' hk' => by have := (ho.lt k' hk').1; omega
          have hbase : w.heap.size + 2 ≤ (wr.alloc (.cells #[.int .i64 n0] 3)).heap.size := by simp; omega
          have Hp3 : Hid (wrap64 ((p : Int) + (i3 : Int)) = (p : Int) + (i3 : Int)) := by
            have gw := gw_of _ _ hp3 hl
            rwa [show ((p + i3 : Nat) : Int) = (p : Int) + (i3 : Int) from by push_cast; rfl] at gw
          clear hgm h3 hg
          go_wp2_with (first
            | (go_at_call 117; refine (ref01_GetSigned A0 c0 y0 _ r0).mono ?_; rintro e w1 ⟨rfl, rfl⟩; rw [← HN.out, ← HI3.out])
            | ((with_reducible refine gate_bi (b := .append) (xs := #[.tmp 86, .tmp 88]) rfl ?_); at_builtin; go_loud (refine own_appR eI (w.heap.size + 2) rfl (.tmp 86) (.tmp 88) 34 3 (.int .i64 0) 8 rfl Tryz.underlying34 infoI rfl (by decide) _ xs [n0] (some ⟨wr.heap.size, 0, none⟩) 1 rfl rfl (ho.ex ((Ex.refl _).alloc _)) (rd_lit1 eI wr 3 n0) hbase hlen.out ?_); intro v1 w1 ho1 hg1 ha1; (obtain ⟨A7, c7, rfl, hr7⟩ := ho1.rd); have hS1 := (HS.out.ex ((Ex.refl wr).alloc (.cells #[.int .i64 n0] 3))).gb hg1 hnr; have hT1 := (HT.out.ex ((Ex.refl wr).alloc (.cells #[.int .i64 n0] 3))).gb hg1 hnr2; have HS1 := Lib.hid hS1; (obtain ⟨⟨a0, b0⟩, ⟨a1, b1⟩, ⟨a2, b2⟩, ⟨a3, b3⟩⟩ := hS1)))
          have hgb := gb_setp w1 ⟨w.heap.size + 1, 1, none⟩ (.slice A7 (xs ++ [n0]).length c7)
          have hS9 := HS1.out.set (.slice A7 (xs ++ [n0]).length c7)
          have hT9 := hT1.gb hgb (fun e => by have := Option.some.inj e; simp at this)
          have ho9 := ho1.gb hgb (.inr (fun e => by have := (ho1.lt _ e).1; simp at this))
          have hx9 : Ex w (w1.setCell ⟨w.heap.size + 1, 1, none⟩ (.slice A7 (xs ++ [n0]).length c7)) := ((hx.alloc _).grown hg1 (fun k' hk' => Hno.out k' hk')).set (by simp) _
          simp only [List.length_append, List.length_cons, List.length_nil] at hS9 hT9 ho9 hx9
          go_roundw
          case rel => exact ⟨p + i3, q + 1, xs ++ [n0], _, vint (by first | (push_cast; rfl) | (rw [Hp3.out]; push_cast; rfl)), by go_num, hlt, hp3, by rw [Hid, List.length_append, hxl.out]; rfl, hS9, hT9, ho9, hx9, hst⟩
          case measure => simp [intOf]; omega
      · have hqz : q = z := by omega
        have he : getMany z (l.drop (i + j + k)) = (xs, l.drop p, true) := by
          have h := hg.out
          rw [hqz, Nat.sub_self] at h
          rw [h]; simp [getMany]
        have hs2 : decS l = if l.drop p ≠ [] then (stZ, 3) else if mayS ⟨x, xs, true, ((y : Int) - 1)⟩ = false then (stZ, 1) else (⟨x, xs, true, ((y : Int) - 1)⟩, 0) := by
          rw [hs.out, he]; simp
        have hw9 : w.heap.size < wr.heap.size := Nat.lt_of_succ_lt hlt9
        by_cases hpl : p = l.length
        · have e3 : ((p : Int) != (l.length : Int)) = false := by rw [hpl]; simp
          have hd : l.drop p = [] := List.drop_eq_nil_of_le (by omega)
          rw [if_neg (by rw [hd]; simp)] at hs2
          have hxs4 : xs.length ≤ 4000000000000 := by have := hxl.out; omega
          cases hm : mayS ⟨x, xs, true, ((y : Int) - 1)⟩ with
          | false =>
            have Hm := Lib.hid hm
            have hs : Hid (decS l = (stZ, 1)) := by rw [Hid, hs2, if_pos hm]
            clear hm hs2 he hqz hpl hd hg
            go_wp2_with (go_at_call 77; go_loud (refine (ref04_May ⟨x, xs, true, ((y : Int) - 1)⟩ A9 c9 _ hr9 hxs4).mono ?_); rintro e w4 ⟨rfl, hx4⟩; rw [Hm.out]; (obtain ⟨⟨q0, f0⟩, ⟨q1, f1⟩, ⟨q2, f2⟩, ⟨q3, f3⟩⟩ := HT.out.ex hx4); have hx04 := hx.trans hx4; have hw4 : w.heap.size < w4.heap.size := World.block_lt_of_cell? _ _ q0)
            refine bodyPost_ret (v := .tuple #[.agg #[.int .i64 0, .slice none 0 0, .bool false, .int .i64 0], .int .i64 1]) (by simp [results, Tryz.results75, go_sem, q0, q1, q2, q3, hw4]) rfl (DecSR.none hs.out (by with_reducible (repeat' first | exact hx04 | refine Ex.alloc ?_ _ | refine Ex.set ?_ (Nat.le_refl _) _)))
          | true =>
            have Hm := Lib.hid hm
            have hs : Hid (decS l = (⟨x, xs, true, ((y : Int) - 1)⟩, 0)) := by rw [Hid, hs2, if_neg (by rw [hm]; decide)]
            clear hm hs2 he hqz hpl hd hg
            have HNw : Hid (∀ a, A9 = some a → w.heap.size + 2 ≤ a.block) := fun a ha => by subst ha; exact (ho.lt a.block rfl).1
            go_wp2_with (go_at_call 77; go_loud (refine (ref04_May ⟨x, xs, true, ((y : Int) - 1)⟩ A9 c9 _ hr9 hxs4).mono ?_); rintro e w4 ⟨rfl, hx4⟩; rw [Hm.out]; (obtain ⟨⟨q0, f0⟩, ⟨q1, f1⟩, ⟨q2, f2⟩, ⟨q3, f3⟩⟩ := HT.out.ex hx4); clear s0 s1 s2 s3 t0 t1 t2 t3; (obtain ⟨⟨s0, -⟩, ⟨s1, -⟩, ⟨s2, -⟩, ⟨s3, -⟩⟩ := HS.out.ex hx4); have hx04 := hx.trans hx4; have hr49 := hr9.ex hx4; have hw4 : w.heap.size < w4.heap.size := World.block_lt_of_cell? _ _ q0)
            refine bodyPost_ret (v := .tuple #[.agg #[.int .i64 x, .slice A9 xs.length c9, .bool true, .int .i64 (((y : Int) - 1))], .int .i64 0]) (by simp [results, Tryz.results75, go_sem, q0, q1, q2, q3, hw4]) rfl ⟨A9, c9, by rw [hs.out], ?_, ?_, ?_⟩
            · rw [hs.out]
              with_reducible
                repeat' first
                  | exact hr49
                  | refine Rd.grown ?_ (gb_setp _ _ _) (fun a ha e => by have h8 := HNw.out a ha; have := Option.some.inj e; simp only at this; omega)
            · intro a ha; have := HNw.out a ha; omega
            · with_reducible (repeat' first | exact hx04 | refine Ex.set ?_ (Nat.le_refl _) _)
        · have e3 : ((p : Int) != (l.length : Int)) = true := by rw [bne_iff_ne]; omega
          have hs : Hid (decS l = (stZ, 3)) := by
            rw [Hid, hs2, if_pos]
            intro h
            have := congrArg List.length h
            rw [List.length_drop] at this
            simp at this; omega
          clear hs2 he hqz hpl hg
          obtain ⟨⟨q0, f0⟩, ⟨q1, f1⟩, ⟨q2, f2⟩, ⟨q3, f3⟩⟩ := hT
          go_wp2_with fail
          refine bodyPost_ret (v := .tuple #[.agg #[.int .i64 0, .slice none 0 0, .bool false, .int .i64 0], .int .i64 3]) (by simp [results, Tryz.results75, go_sem, q0, q1, q2, q3, hw9]) rfl (DecSR.none hs.out (by with_reducible (repeat' first | exact hx | refine Ex.alloc ?_ _ | refine Ex.set ?_ (Nat.le_refl _) _)))
  · have gw1 := Hw1.out
    have gw2 := Hw2.out
    go_enter Tryz.func75, Tryz.ntmps75
    go_wp2_with (first
      | (go_at_call_of 72 A2; refine (ref01_Get A2 c2 y2 _ (r2.ex hx0)).mono ?_; rintro e w1 ⟨rfl, rfl⟩; rw [← HZ.out, ← HK.out])
      | (go_at_call_of 72 A1; refine (ref01_Get A1 c1 y1 _ (r1.ex hx0)).mono ?_; rintro e w1 ⟨rfl, rfl⟩; rw [← HY.out, ← HJ.out])
      | (go_at_call 72; refine (ref01_Get A c l _ (hr.ex hx0)).mono ?_; rintro e w1 ⟨rfl, rfl⟩; rw [← HX.out, ← HI.out]))
    go_loopw [11, 12] (fun at_ n wr => ∃ (p q : Nat) (xs : List Int) (v : Value), at_ = .int .i64 p ∧ n = .int .i64 q ∧ q ≤ z ∧ p ≤ l.length ∧ Hid (xs.length = q) ∧ StAt wr (w.heap.size + 1) x v false 0 ∧ StAt wr w.heap.size 0 (.slice none 0 0) false 0 ∧ Own eI 3 wr (w.heap.size + 2) v xs ∧ Ex w wr ∧ Hid (getMany z (l.drop (i + j + k)) = (xs ++ (getMany (z - q) (l.drop p)).1, (getMany (z - q) (l.drop p)).2.1, (getMany (z - q) (l.drop p)).2.2))) (fun _ n _ => (z - intOf n).toNat)
    case atStart => exact ⟨i + j + k, 0, [], _, vint (by push_cast; rfl), rfl, by omega, hkl, rfl, ⟨new_cell1 w _ _ _ 0 rfl, new_cell1 w _ _ _ 1 rfl, new_cell1 w _ _ _ 2 rfl, new_cell1 w _ _ _ 3 rfl⟩, (st0_new w).ex ((Ex.refl _).alloc _), Own.nil _ _ _ _, hx0.alloc _, by rw [Nat.sub_zero]; rfl⟩
    case round =>
      clear gw1 gw2
      obtain ⟨p, q, xs, v, rfl, rfl, hq, hp, hxl, hS, hT, ho, hx, hg⟩ := hrel
      obtain ⟨A9, c9, rfl, hr9⟩ := ho.rd
      have hlt9 : w.heap.size + 1 < wr.heap.size := World.block_lt_of_cell? _ _ hS.1.1
      have HS := Lib.hid hS
      have HT := Lib.hid hT
      obtain ⟨⟨s0, t0⟩, ⟨s1, t1⟩, ⟨s2, t2⟩, ⟨s3, t3⟩⟩ := hS
      by_cases hlt : q < z
      · have hgm := get_more z q hlt (l.drop p)
        obtain ⟨A0, c0, y0, hy0, run0, r0⟩ := cut_from (P := Tryz.prog) wr 22 5 Tryz.underlying22 sizeB (hr.ex hx) (p : Int) (by omega) (by omega)
        have e0 : y0 = l.drop p := by have h := hy0.out; rw [Int.toNat_natCast] at h; exact h
        obtain ⟨n0, hn0⟩ : ∃ n, n = (getS y0).1 := ⟨_, rfl⟩
        obtain ⟨i3, hi3⟩ : ∃ i, i = (getS y0).2 := ⟨_, rfl⟩
        have z3 := getS_le y0
        rw [← hi3] at z3
        have hp3 : p + i3 ≤ l.length := by have : y0.length + p = l.length := (by rw [e0, List.length_drop]; omega); omega
        rw [← e0, ← hn0, ← hi3, e0, List.drop_drop] at hgm
        have HN := Lib.hid hn0; have HI3 := Lib.hid hi3
        clear hn0 hi3 z3 e0 hy0
        by_cases h3 : i3 = 0
        · have e3 : ((i3 : Int) == 0) = true := by rw [h3]; rfl
          have hs : Hid (decS l = (stZ, 3)) := by
            rw [Hid, hs.out, if_pos (.inl (by rw [hg.out, hgm, h3]; simp))]
          clear hgm h3 hg
          obtain ⟨⟨q0, f0⟩, ⟨q1, f1⟩, ⟨q2, f2⟩, ⟨q3, f3⟩⟩ := hT
          have hw9 : w.heap.size < wr.heap.size := Nat.lt_of_succ_lt hlt9
          go_wp2_with (go_at_call 117; refine (ref01_GetSigned A0 c0 y0 _ r0).mono ?_; rintro e w1 ⟨rfl, rfl⟩; rw [← HN.out, ← HI3.out])
          refine bodyPost_ret (v := .tuple #[.agg #[.int .i64 0, .slice none 0 0, .bool false, .int .i64 0], .int .i64 3]) (by simp [results, Tryz.results75, go_sem, q0, q1, q2, q3, hw9]) rfl (DecSR.none hs.out (by with_reducible (repeat' first | exact hx | refine Ex.alloc ?_ _ | refine Ex.set ?_ (Nat.le_refl _) _)))
        · have e3 : ((i3 : Int) == 0) = false := by rw [beq_eq_false_iff_ne]; omega
          have hst : Hid (getMany z (l.drop (i + j + k)) = ((xs ++ [n0]) ++ (getMany (z - (q + 1)) (l.drop (p + i3))).1, (getMany (z - (q + 1)) (l.drop (p + i3))).2.1, (getMany (z - (q + 1)) (l.drop (p + i3))).2.2)) := by
            rw [Hid, hg.out, hgm, decide_eq_true (show 0 < i3 by omega), Bool.true_and, List.append_assoc]; rfl
          have hnr : (Value.slice A9 xs.length c9).ownBlock ≠ some (w.heap.size + 1) := fun e => by have := (ho.lt _ e).1; omega
          have hnr2 : (Value.slice A9 xs.length c9).ownBlock ≠ some w.heap.size := fun e => by have := (ho.lt _ e).1; omega
          have hlen : Hid ((xs.length + [n0].length) * 8 ≤ 140737488355328) := by
            have := hxl.out
            rw [Hid, this, List.length_singleton]; omega
          have Hno : Hid (∀ k', (Value.slice A9 xs.length c9).ownBlock = some k' → w.heap.size ≤ k') := fun k' hk' => by have := (ho.lt k' hk').1; omega
          have hbase : w.heap.size + 2 ≤ (wr.alloc (.cells #[.int .i64 n0] 3)).heap.size := by simp; omega
          have Hp3 : Hid (wrap64 ((p : Int) + (i3 : Int)) = (p : Int) + (i3 : Int)) := by
            have gw := gw_of _ _ hp3 hl
            rwa [show ((p + i3 : Nat) : Int) = (p : Int) + (i3 : Int) from by push_cast; rfl] at gw
          clear hgm h3 hg
          go_wp2_with (first
            | (go_at_call 117; refine (ref01_GetSigned A0 c0 y0 _ r0).mono ?_; rintro e w1 ⟨rfl, rfl⟩; rw [← HN.out, ← HI3.out])
            | ((with_reducible refine gate_bi (b := .append) (xs := #[.tmp 86, .tmp 88]) rfl ?_); at_builtin; go_loud (refine own_appR eI (w.heap.size + 2) rfl (.tmp 86) (.tmp 88) 34 3 (.int .i64 0) 8 rfl Tryz.underlying34 infoI rfl (by decide) _ xs [n0] (some ⟨wr.heap.size, 0, none⟩) 1 rfl rfl (ho.ex ((Ex.refl _).alloc _)) (rd_lit1 eI wr 3 n0) hbase hlen.out ?_); intro v1 w1 ho1 hg1 ha1; (obtain ⟨A7, c7, rfl, hr7⟩ := ho1.rd); have hS1 := (HS.out.ex ((Ex.refl wr).alloc (.cells #[.int .i64 n0] 3))).gb hg1 hnr; have hT1 := (HT.out.ex ((Ex.refl wr).alloc (.cells #[.int .i64 n0] 3))).gb hg1 hnr2; have HS1 := Lib.hid hS1; (obtain ⟨⟨a0, b0⟩, ⟨a1, b1⟩, ⟨a2, b2⟩, ⟨a3, b3⟩⟩ := hS1)))
          have hgb := gb_setp w1 ⟨w.heap.size + 1, 1, none⟩ (.slice A7 (xs ++ [n0]).length c7)
          have hS9 := HS1.out.set (.slice A7 (xs ++ [n0]).length c7)
          have hT9 := hT1.gb hgb (fun e => by have := Option.some.inj e; simp at this)
          have ho9 := ho1.gb hgb (.inr (fun e => by have := (ho1.lt _ e).1; simp at this))
          have hx9 : Ex w (w1.setCell ⟨w.heap.size + 1, 1, none⟩ (.slice A7 (xs ++ [n0]).length c7)) := ((hx.alloc _).grown hg1 (fun k' hk' => Hno.out k' hk')).set (by simp) _
          simp only [List.length_append, List.length_cons, List.length_nil] at hS9 hT9 ho9 hx9
          go_roundw
          case rel => exact ⟨p + i3, q + 1, xs ++ [n0], _, vint (by first | (push_cast; rfl) | (rw [Hp3.out]; push_cast; rfl)), by go_num, hlt, hp3, by rw [Hid, List.length_append, hxl.out]; rfl, hS9, hT9, ho9, hx9, hst⟩
          case measure => simp [intOf]; omega
      · have hqz : q = z := by omega
        have he : getMany z (l.drop (i + j + k)) = (xs, l.drop p, true) := by
          have h := hg.out
          rw [hqz, Nat.sub_self] at h
          rw [h]; simp [getMany]
        have hs2 : decS l = if l.drop p ≠ [] then (stZ, 3) else if mayS ⟨x, xs, false, 0⟩ = false then (stZ, 1) else (⟨x, xs, false, 0⟩, 0) := by
          rw [hs.out, he]; simp
        have hw9 : w.heap.size < wr.heap.size := Nat.lt_of_succ_lt hlt9
        by_cases hpl : p = l.length
        · have e3 : ((p : Int) != (l.length : Int)) = false := by rw [hpl]; simp
          have hd : l.drop p = [] := List.drop_eq_nil_of_le (by omega)
          rw [if_neg (by rw [hd]; simp)] at hs2
          have hxs4 : xs.length ≤ 4000000000000 := by have := hxl.out; omega
          cases hm : mayS ⟨x, xs, false, 0⟩ with
          | false =>
            have Hm := Lib.hid hm
            have hs : Hid (decS l = (stZ, 1)) := by rw [Hid, hs2, if_pos hm]
            clear hm hs2 he hqz hpl hd hg
            go_wp2_with (go_at_call 77; go_loud (refine (ref04_May ⟨x, xs, false, 0⟩ A9 c9 _ hr9 hxs4).mono ?_); rintro e w4 ⟨rfl, hx4⟩; rw [Hm.out]; (obtain ⟨⟨q0, f0⟩, ⟨q1, f1⟩, ⟨q2, f2⟩, ⟨q3, f3⟩⟩ := HT.out.ex hx4); have hx04 := hx.trans hx4; have hw4 : w.heap.size < w4.heap.size := World.block_lt_of_cell? _ _ q0)
            refine bodyPost_ret (v := .tuple #[.agg #[.int .i64 0, .slice none 0 0, .bool false, .int .i64 0], .int .i64 1]) (by simp [results, Tryz.results75, go_sem, q0, q1, q2, q3, hw4]) rfl (DecSR.none hs.out (by with_reducible (repeat' first | exact hx04 | refine Ex.alloc ?_ _ | refine Ex.set ?_ (Nat.le_refl _) _)))
          | true =>
            have Hm := Lib.hid hm
            have hs : Hid (decS l = (⟨x, xs, false, 0⟩, 0)) := by rw [Hid, hs2, if_neg (by rw [hm]; decide)]
            clear hm hs2 he hqz hpl hd hg
            have HNw : Hid (∀ a, A9 = some a → w.heap.size + 2 ≤ a.block) := fun a ha => by subst ha; exact (ho.lt a.block rfl).1
            go_wp2_with (go_at_call 77; go_loud (refine (ref04_May ⟨x, xs, false, 0⟩ A9 c9 _ hr9 hxs4).mono ?_); rintro e w4 ⟨rfl, hx4⟩; rw [Hm.out]; (obtain ⟨⟨q0, f0⟩, ⟨q1, f1⟩, ⟨q2, f2⟩, ⟨q3, f3⟩⟩ := HT.out.ex hx4); clear s0 s1 s2 s3 t0 t1 t2 t3; (obtain ⟨⟨s0, -⟩, ⟨s1, -⟩, ⟨s2, -⟩, ⟨s3, -⟩⟩ := HS.out.ex hx4); have hx04 := hx.trans hx4; have hr49 := hr9.ex hx4; have hw4 : w.heap.size < w4.heap.size := World.block_lt_of_cell? _ _ q0)
            refine bodyPost_ret (v := .tuple #[.agg #[.int .i64 x, .slice A9 xs.length c9, .bool false, .int .i64 (0)], .int .i64 0]) (by simp [results, Tryz.results75, go_sem, q0, q1, q2, q3, hw4]) rfl ⟨A9, c9, by rw [hs.out], ?_, ?_, ?_⟩
            · rw [hs.out]
              with_reducible
                repeat' first
                  | exact hr49
                  | refine Rd.grown ?_ (gb_setp _ _ _) (fun a ha e => by have h8 := HNw.out a ha; have := Option.some.inj e; simp only at this; omega)
            · intro a ha; have := HNw.out a ha; omega
            · with_reducible (repeat' first | exact hx04 | refine Ex.set ?_ (Nat.le_refl _) _)
        · have e3 : ((p : Int) != (l.length : Int)) = true := by rw [bne_iff_ne]; omega
          have hs : Hid (decS l = (stZ, 3)) := by
            rw [Hid, hs2, if_pos]
            intro h
            have := congrArg List.length h
            rw [List.length_drop] at this
            simp at this; omega
          clear hs2 he hqz hpl hg
          obtain ⟨⟨q0, f0⟩, ⟨q1, f1⟩, ⟨q2, f2⟩, ⟨q3, f3⟩⟩ := hT
          go_wp2_with fail
          refine bodyPost_ret (v := .tuple #[.agg #[.int .i64 0, .slice none 0 0, .bool false, .int .i64 0], .int .i64 3]) (by simp [results, Tryz.results75, go_sem, q0, q1, q2, q3, hw9]) rfl (DecSR.none hs.out (by with_reducible (repeat' first | exact hx | refine Ex.alloc ?_ _ | refine Ex.set ?_ (Nat.le_refl _) _)))
theorem ref05_DecodeState (A : Option Addr) (c : Nat) (l : List UInt8) (w : World) (hr : Rd eB w A c l) (hl : l.length ≤ 70000000000000) :
    Calls Tryz.prog 75 #[.slice A l.length c] w (DecSR l w) := by
  obtain ⟨i, hi⟩ : ∃ i, i = (get l).2 := ⟨_, rfl⟩
  obtain ⟨x, hx⟩ : ∃ x, x = (get l).1 := ⟨_, rfl⟩
  obtain ⟨l1, hl1⟩ : ∃ l1, l1 = l.drop i := ⟨_, rfl⟩
  obtain ⟨j, hj⟩ : ∃ j, j = (get l1).2 := ⟨_, rfl⟩
  obtain ⟨y, hy⟩ : ∃ y, y = (get l1).1 := ⟨_, rfl⟩
  obtain ⟨l2, hl2⟩ : ∃ l2, l2 = l1.drop j := ⟨_, rfl⟩
  obtain ⟨k, hk⟩ : ∃ k, k = (get l2).2 := ⟨_, rfl⟩
  obtain ⟨z, hz⟩ : ∃ z, z = (get l2).1 := ⟨_, rfl⟩
  have i1 := get_le l
  have i2 := get_le l1
  have i3 := get_le l2
  rw [← hi] at i1
  rw [← hj] at i2
  rw [← hk] at i3
  have e1 : l1.length + i = l.length := by rw [hl1, List.length_drop]; omega
  have e2 : l2.length + j = l1.length := by rw [hl2, List.length_drop]; omega
  have hl3 : l2.drop k = l.drop (i + j + k) := by rw [hl2, hl1, List.drop_drop, List.drop_drop]; congr 1; omega
  have hspec : decS l = if i = 0 ∨ j = 0 ∨ k = 0 ∨ 3 < y ∨ 128 < z then (stZ, 3) else
      if (getMany z (l.drop (i + j + k))).2.2 = false ∨ (getMany z (l.drop (i + j + k))).2.1 ≠ [] then (stZ, 3) else if mayS ⟨x, (getMany z (l.drop (i + j + k))).1, decide (0 < y), ((y - 1 : Nat) : Int)⟩ = false then (stZ, 1) else (⟨x, (getMany z (l.drop (i + j + k))).1, decide (0 < y), ((y - 1 : Nat) : Int)⟩, 0) := by
    rw [← hl3]
    unfold decS
    simp only [← hi, ← hx, ← hl1, ← hj, ← hy, ← hl2, ← hk, ← hz]
  have HSp := Lib.hid hspec
  clear hspec hl3
  by_cases h1 : i = 0
  · exact ref05_DecodeState_bad A c l w hr hl i x l1 j y l2 k z hi hx hl1 hj hy hl2 hk hz (by omega) (by omega) (by rw [Hid, HSp.out, if_pos (.inl h1)]) (.inl (by rw [h1]; rfl))
  · have g1 : ((i : Int) == 0) = false := by rw [beq_eq_false_iff_ne]; omega
    by_cases h2 : j = 0
    · exact ref05_DecodeState_bad A c l w hr hl i x l1 j y l2 k z hi hx hl1 hj hy hl2 hk hz (by omega) (by omega) (by rw [Hid, HSp.out, if_pos (.inr (.inl h2))]) (.inr (.inl ⟨g1, by rw [h2]; rfl⟩))
    · have g2 : ((j : Int) == 0) = false := by rw [beq_eq_false_iff_ne]; omega
      by_cases h3 : k = 0
      · exact ref05_DecodeState_bad A c l w hr hl i x l1 j y l2 k z hi hx hl1 hj hy hl2 hk hz (by omega) (by omega) (by rw [Hid, HSp.out, if_pos (.inr (.inr (.inl h3)))]) (.inr (.inr (.inl ⟨g1, g2, by rw [h3]; rfl⟩)))
      · have g3 : ((k : Int) == 0) = false := by rw [beq_eq_false_iff_ne]; omega
        by_cases h4 : 3 < y
        · exact ref05_DecodeState_bad A c l w hr hl i x l1 j y l2 k z hi hx hl1 hj hy hl2 hk hz (by omega) (by omega) (by rw [Hid, HSp.out, if_pos (.inr (.inr (.inr (.inl h4))))]) (.inr (.inr (.inr (.inl ⟨g1, g2, g3, by omega⟩))))
        · by_cases h5 : 128 < z
          · exact ref05_DecodeState_bad A c l w hr hl i x l1 j y l2 k z hi hx hl1 hj hy hl2 hk hz (by omega) (by omega) (by rw [Hid, HSp.out, if_pos (.inr (.inr (.inr (.inr h5))))]) (.inr (.inr (.inr (.inr ⟨g1, g2, g3, by omega, by omega⟩))))
          · refine ref05_DecodeState_good A c l w hr hl i x l1 j y l2 k z hi hx hl1 hj hy hl2 hk hz (by omega) (by omega) (by omega) g1 g2 g3 (by omega) (by omega) (decide (0 < y)) ((y - 1 : Nat) : Int) ?_ ?_
            · by_cases h6 : 0 < y
              · exact .inl ⟨h6, decide_eq_true h6, by rw [Hid]; omega⟩
              · exact .inr ⟨h6, decide_eq_false h6, by omega⟩
            · rw [Hid, HSp.out, if_neg (by omega)]
end Go.Proofs.YtdghbnkegahdnaaGreat.B
