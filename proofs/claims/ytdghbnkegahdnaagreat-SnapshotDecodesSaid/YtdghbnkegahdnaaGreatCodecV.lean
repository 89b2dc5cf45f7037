/- The walks of package codec, third part: DecodeState. -/
import Derived.Test.YtdghbnkegahdnaaGreatCodecU
set_option linter.unusedVariables false
set_option linter.unusedSimpArgs false
set_option maxRecDepth 100000
set_option maxHeartbeats 2000000
namespace Go.Proofs.YtdghbnkegahdnaaGreat.B
open Go Go.RowKit Go.Proofs

theorem gb_setp (w : World) (p : Addr) (v : Value) : w.grownBy (w.setCell p v) (some p.block) :=
  ⟨rfl, rfl, rfl, by simp, fun k _ hk => Below.heap_setCell _ _ _ k (fun e => hk (by rw [e]))⟩
theorem get_more (z m : Nat) (hm : m < z) (lr : List UInt8) : getMany (z - m) lr = ((getS lr).1 :: (getMany (z - (m + 1)) (lr.drop (getS lr).2)).1, (getMany (z - (m + 1)) (lr.drop (getS lr).2)).2.1, decide (0 < (getS lr).2) && (getMany (z - (m + 1)) (lr.drop (getS lr).2)).2.2) := by
  rw [show z - m = (z - (m + 1)) + 1 by omega]; rfl
/-- Four cells of a state. -/
def StAt (w : World) (b : Nat) (kind : Int) (v : Value) (sd : Bool) (tt : Int) : Prop :=
  (w.cell? ⟨b, 0, none⟩ = some (.int .i64 kind) ∧ w.frozen? ⟨b, 0, none⟩ = false) ∧ (w.cell? ⟨b, 1, none⟩ = some v ∧ w.frozen? ⟨b, 1, none⟩ = false) ∧ (w.cell? ⟨b, 2, none⟩ = some (.bool sd) ∧ w.frozen? ⟨b, 2, none⟩ = false) ∧ (w.cell? ⟨b, 3, none⟩ = some (.int .i64 tt) ∧ w.frozen? ⟨b, 3, none⟩ = false)
theorem both_gb {w w' : World} {row : Option Nat} (hg : w.grownBy w' row) {p : Addr} {v : Value} (hc : w.cell? p = some v ∧ w.frozen? p = false) (hne : some p.block ≠ row) : w'.cell? p = some v ∧ w'.frozen? p = false :=
  ⟨hg.cell hc.1 hne, (hg.frozen_far p (World.block_lt_of_cell? w _ hc.1) hne).trans hc.2⟩
theorem StAt.gb {w w' : World} {b : Nat} {kind : Int} {v : Value} {sd : Bool} {tt : Int} (h : StAt w b kind v sd tt) {row : Option Nat} (hg : w.grownBy w' row) (hne : row ≠ some b) : StAt w' b kind v sd tt :=
  ⟨both_gb hg h.1 (fun e => hne e.symm), both_gb hg h.2.1 (fun e => hne e.symm), both_gb hg h.2.2.1 (fun e => hne e.symm), both_gb hg h.2.2.2 (fun e => hne e.symm)⟩
theorem StAt.two {w w' : World} {b bb fb : Nat} {kind : Int} {v : Value} {sd : Bool} {tt : Int} (h : StAt w b kind v sd tt) (ht : Two bb fb w w') (h1 : b ≠ bb) (h2 : b ≠ fb) : StAt w' b kind v sd tt :=
  ⟨ht.both h.1 h1 h2, ht.both h.2.1 h1 h2, ht.both h.2.2.1 h1 h2, ht.both h.2.2.2 h1 h2⟩
theorem StAt.ex {w w' : World} {b : Nat} {kind : Int} {v : Value} {sd : Bool} {tt : Int} (h : StAt w b kind v sd tt) (hx : Ex w w') : StAt w' b kind v sd tt :=
  ⟨hx.both h.1, hx.both h.2.1, hx.both h.2.2.1, hx.both h.2.2.2⟩
theorem StAt.set {w : World} {b : Nat} {kind : Int} {v : Value} {sd : Bool} {tt : Int} (h : StAt w b kind v sd tt) (u : Value) : StAt (w.setCell ⟨b, 1, none⟩ u) b kind u sd tt := by
  have o0 : (w.setCell ⟨b, 1, none⟩ u).cell? ⟨b, 0, none⟩ = some (.int .i64 kind) := (World.cell?_setCell_other w ⟨b, 1, none⟩ ⟨b, 0, none⟩ u (by intro e; cases e)).trans h.1.1
  have o2 : (w.setCell ⟨b, 1, none⟩ u).cell? ⟨b, 2, none⟩ = some (.bool sd) := (World.cell?_setCell_other w ⟨b, 1, none⟩ ⟨b, 2, none⟩ u (by intro e; cases e)).trans h.2.2.1.1
  have o3 : (w.setCell ⟨b, 1, none⟩ u).cell? ⟨b, 3, none⟩ = some (.int .i64 tt) := (World.cell?_setCell_other w ⟨b, 1, none⟩ ⟨b, 3, none⟩ u (by intro e; cases e)).trans h.2.2.2.1
  exact ⟨⟨o0, by simpa using h.1.2⟩, ⟨World.cell?_setCell_same _ _ _ h.2.1.1, by simpa using h.2.1.2⟩, ⟨o2, by simpa using h.2.2.1.2⟩, ⟨o3, by simpa using h.2.2.2.2⟩⟩
theorem codec_DecodeState_good (A : Option Addr) (c : Nat) (l : List UInt8) (w : World) (hr : Rd eB w A c l) (hl : l.length ≤ 70000000000000)
    (i x : Nat) (l1 : List UInt8) (j y : Nat) (l2 : List UInt8) (k z : Nat) (l3 : List UInt8) (hylt : y < 4611686018427387904) (n3 : l3.length ≤ 70000000000000)
    (HI : Hid (i = (get l).2)) (HX : Hid (x = (get l).1)) (HL1 : Hid (l1 = l.drop i)) (HJ : Hid (j = (get l1).2)) (HY : Hid (y = (get l1).1)) (HL2 : Hid (l2 = l1.drop j)) (HK : Hid (k = (get l2).2)) (HZ : Hid (z = (get l2).1)) (HL3 : Hid (l3 = l2.drop k))
    (f : Bool) (HF : Hid (f = (((true && decide (0 < i)) && decide (0 < j)) && decide (0 < k))))
    (hf : f = true) (hy3 : ¬ 3 < y) (hz3 : ¬ 128 < z) (hs : Hid (decS l = if (getMany z l3).2.2 = false ∨ (getMany z l3).2.1 ≠ [] then (stZ, 3) else if mayS ⟨x, (getMany z l3).1, decide (0 < y), ((y - 1 : Nat) : Int)⟩ = false then (stZ, 1) else (⟨x, (getMany z l3).1, decide (0 < y), ((y - 1 : Nat) : Int)⟩, 0))) :
    Calls Tryz.prog 68 #[.slice A l.length c] w fun e w' => ∃ B d, e = .returned (.tuple #[.agg #[.int .i64 (decS l).1.kind, .slice B (decS l).1.l.length d, .bool (decS l).1.sealed, .int .i64 (decS l).1.to], .int .i64 (decS l).2]) ∧ Rd eI w' B d (decS l).1.l ∧ (∀ a, B = some a → w.heap.size ≤ a.block) ∧ Ex w w' := by
  have hr0 := hr.ex ((Ex.refl w).alloc (.cells #[.int .i64 0, .slice none 0 0, .bool false, .int .i64 0] 36))
  subst hf
  have hmax : (if (y : Int) - 1 < 0 then (0 : Int) else (y : Int) - 1) = ((y - 1 : Nat) : Int) := by split <;> omega
  go_enter Tryz.func68, Tryz.ntmps68
  go_wp2_with (go_at_call 108; (refine (codec_reader A c l _ (w.heap.size + 1) (by simp) hr0).mono ?_); rintro e w1 ⟨rfl, hR1, hx1⟩)
  refine (rd_Get _ _ l true _ hR1).mono ?_
  rintro e w2 ⟨rfl, hR2, hx2⟩
  rw [← HI.out, ← HL1.out] at hR2
  rw [← HX.out]
  go_wp2_with fail
  refine (rd_Get _ _ l1 _ _ hR2).mono ?_
  rintro e w3 ⟨rfl, hR3, hx3⟩
  rw [← HJ.out, ← HL2.out] at hR3
  rw [← HY.out]
  go_wp2_with fail
  refine (rd_Get _ _ l2 _ _ hR3).mono ?_
  rintro e w4 ⟨rfl, hR4, hx4⟩
  rw [← HK.out, ← HF.out, ← HL3.out] at hR4
  rw [← HZ.out]
  have hxr : Ex (w.alloc (.cells #[.int .i64 0, .slice none 0 0, .bool false, .int .i64 0] 36)) w4 := hx4.ex (hx3.ex (hx2.ex hx1 (by simp) (by simp)) (by simp) (by simp)) (by simp) (by simp)
  have hx41 : Ex w w4 := ((Ex.refl w).alloc _).trans hxr
  obtain ⟨q0, f0⟩ := hxr.both (new_cell w _ _ 0 rfl)
  obtain ⟨q1, f1⟩ := hxr.both (new_cell w _ _ 1 rfl)
  obtain ⟨q2, f2⟩ := hxr.both (new_cell w _ _ 2 rfl)
  obtain ⟨q3, f3⟩ := hxr.both (new_cell w _ _ 3 rfl)
  have hw4 : w.heap.size < w4.heap.size := World.block_lt_of_cell? w4 _ q0
  clear hx2 hx3 hx4 hR3 hR2 hR1 hx1 HI HX HL1 HJ HY HL2 HK HZ HL3 HF hr0
  go_wp2_with (go_at_call 143; (refine (codec_reader2 _ _ _ _ _ hR4).mono ?_); rintro e w5 ⟨rfl, rfl⟩)
  obtain ⟨q, hq⟩ : ∃ q, q = getMany z l3 := ⟨_, rfl⟩
  obtain ⟨qn, ql, qf⟩ := q
  rw [← hq] at hs
  simp only at hs
  have Hq := Lib.hid hq; clear hq
  obtain ⟨W, hW⟩ : ∃ W, W = w4.alloc (.cells #[.int .i64 x, .slice none 0 0, .bool (decide (0 < y)), .int .i64 ((y - 1 : Nat) : Int)] 36) := ⟨_, rfl⟩
  have hxW : Ex w4 W := by rw [hW]; exact (Ex.refl w4).alloc _
  have hS0 : StAt W w4.heap.size x (.slice none 0 0) (decide (0 < y)) ((y - 1 : Nat) : Int) := by rw [hW]; exact ⟨new_cell _ _ _ 0 rfl, new_cell _ _ _ 1 rfl, new_cell _ _ _ 2 rfl, new_cell _ _ _ 3 rfl⟩
  have hWs : W.heap.size = w4.heap.size + 1 := by rw [hW]; simp
  rw [← hW]
  clear hW
  have hb4 : w.heap.size + 1 < w4.heap.size := by obtain ⟨_, _, _, g, _⟩ := hR4; exact World.block_lt_of_cell? w4 _ g
  have hf4 : w.heap.size + 1 + 1 < w4.heap.size := by obtain ⟨_, _, _, _, _, _, _, g, _⟩ := hR4; exact World.block_lt_of_cell? w4 _ g
  have hRW := hR4.ex hxW
  have hxrW := hxr.trans hxW
  clear q0 q1 q2 q3 f0 f1 f2 f3 hR4
  obtain ⟨bb, hbb⟩ : ∃ bb, bb = w.heap.size + 1 := ⟨_, rfl⟩
  obtain ⟨fb, hfb⟩ : ∃ fb, fb = w.heap.size + 1 + 1 := ⟨_, rfl⟩
  obtain ⟨sb, hsb⟩ : ∃ sb, sb = w4.heap.size := ⟨_, rfl⟩
  rw [← hfb, ← hbb] at hRW
  rw [← hsb] at hS0
  rw [← hfb, ← hbb, ← hsb]
  have hz128 : z ≤ 128 := by omega
  have e1 : bb < sb := by omega
  have e2 : fb < sb := by omega
  have e3 : sb < W.heap.size := by omega
  have e4 : w.heap.size + 1 ≤ bb := by omega
  have e5 : w.heap.size + 1 ≤ fb := by omega
  have Hsb := Lib.hid hsb; have Hbb := Lib.hid hbb; have Hfb := Lib.hid hfb; have HWs := Lib.hid hWs
  clear hsb hbb hfb hWs hb4 hf4
  go_loopw [43] (fun i wr => ∃ (m : Nat) (xs : List Int) (lr : List UInt8) (fl : Bool) (v : Value), i = .int .i64 m ∧ m ≤ z ∧ xs.length = m ∧ lr.length ≤ 70000000000000 ∧ Hid ((qn, ql, qf) = (xs ++ (getMany (z - m) lr).1, (getMany (z - m) lr).2.1, fl && (getMany (z - m) lr).2.2)) ∧ RdrAt wr bb fb lr fl ∧ StAt wr sb x v (decide (0 < y)) ((y - 1 : Nat) : Int) ∧ Own eI 3 wr W.heap.size v xs ∧ W.heap.size ≤ wr.heap.size ∧ Ex (w.alloc (.cells #[.int .i64 0, .slice none 0 0, .bool false, .int .i64 0] 36)) wr) (fun i _ => (z - intOf i).toNat)
  case atStart => exact ⟨0, [], l3, true, _, rfl, by omega, rfl, n3, by rw [Nat.sub_zero, Hq.out]; rfl, hRW, hS0, Own.nil _ _ _ _, Nat.le_refl _, hxrW⟩
  case round =>
    obtain ⟨m, xs, lr, fl, v, rfl, hm, hxl, hlr, hg, hR, hS, ho, hle, hx⟩ := hrel
    by_cases hlt : m < z
    · obtain ⟨nn, hnn⟩ : ∃ nn, nn = (getS lr).1 := ⟨_, rfl⟩
      obtain ⟨rest, hrest⟩ : ∃ rest, rest = lr.drop (getS lr).2 := ⟨_, rfl⟩
      obtain ⟨fl2, hfl2⟩ : ∃ b, b = (fl && decide (0 < (getS lr).2)) := ⟨_, rfl⟩
      have hstep : Hid ((qn, ql, qf) = ((xs ++ [nn]) ++ (getMany (z - (m + 1)) rest).1, (getMany (z - (m + 1)) rest).2.1, fl2 && (getMany (z - (m + 1)) rest).2.2)) := by
        have h := hg.out
        rw [get_more z m hlt, ← hnn, ← hrest] at h
        rw [Hid, h, hfl2, List.append_assoc, Bool.and_assoc]; rfl
      have hrl : rest.length ≤ 70000000000000 := by rw [hrest, List.length_drop]; omega
      have Hnn := Lib.hid hnn; have Hrest := Lib.hid hrest; have Hfl2 := Lib.hid hfl2
      clear hnn hrest hfl2 hg
      have hSd := hS.ex (Ex.refl wr).drew
      have hRd := hR.ex (Ex.refl wr).drew
      have c1 := hS.2.1.1
      have c1d := hSd.2.1.1
      have hvb : ∀ k, v.ownBlock = some k → W.heap.size ≤ k := fun k hk => (ho.lt k hk).1
      have hvs : v.ownBlock ≠ some sb := fun e => by have := hvb _ e; omega
      have hlx : (xs.length + [nn].length) * 8 ≤ 140737488355328 := by simp only [List.length_cons, List.length_nil]; omega
      have Hxl := Lib.hid hxl
      clear hxl
      go_wp2_with fail
      go_region_law (first
        | (refine own_appR_h eI W.heap.size rfl (.tmp 46) (.tmp 49) 34 3 (.int .i64 0) 8 rfl Tryz.underlying34 infoI rfl (by decide) v xs [nn] (some ⟨w1.heap.size, 0, none⟩) 1 rfl rfl hoa (rd_lit1 eI w1 3 nn) hba hlx ?_; intro v2 w2 ha2; (obtain ⟨A2, c2, rfl, hr2⟩ := ha2.own.rd); have hS2 := hSa.gb ha2.gb hvs; (obtain ⟨⟨t0, u0⟩, ⟨t1, u1⟩, ⟨t2, u2⟩, ⟨t3, u3⟩⟩ := hS2))
        | (go_simp; go_at_call 142; refine (rd_GetSigned bb fb lr fl _ hRd).mono ?_; rintro e w1 ⟨rfl, hR1, ht1⟩; rw [← Hnn.out]; rw [← Hrest.out, ← Hfl2.out] at hR1; have hS1 := hSd.two ht1 (Nat.ne_of_gt e1) (Nat.ne_of_gt e2); have c1e := hS1.2.1.1; have hSa := hS1.ex ((Ex.refl w1).alloc (.cells #[.int .i64 nn] 3)); have c1f := hSa.2.1.1; have ho1 := ht1.own (ho.ex (Ex.refl wr).drew) (Nat.lt_trans e1 e3) (Nat.lt_trans e2 e3); have hoa := ho1.ex ((Ex.refl w1).alloc (.cells #[.int .i64 nn] 3)); have hba : W.heap.size ≤ (w1.alloc (.cells #[.int .i64 nn] 3)).heap.size := Nat.le_trans hle (Nat.le_trans ht1.size (by simp))))
      all_goals
        have hgb := gb_setp w2 ⟨sb, 1, none⟩ (.slice A2 (xs ++ [nn]).length c2)
        have hS3 := StAt.set (hSa.gb ha2.gb hvs) (.slice A2 (xs ++ [nn]).length c2)
        have hR3 : RdrAt (w2.setCell ⟨sb, 1, none⟩ (.slice A2 (xs ++ [nn]).length c2)) bb fb rest fl2 := ((hR1.ex ((Ex.refl w1).alloc _)).gb ha2.gb (fun k hk => by have := hvb k hk; omega)).gb hgb (fun k hk => by cases hk; exact ⟨e1, e2⟩)
        have ho3 : Own eI 3 (w2.setCell ⟨sb, 1, none⟩ (.slice A2 (xs ++ [nn]).length c2)) W.heap.size (.slice A2 (xs ++ [nn]).length c2) (xs ++ [nn]) := ha2.own.gb hgb (.inr (fun e => by have := (ha2.own.lt _ e).1; simp at this; omega))
        have hx3 : Ex (w.alloc (.cells #[.int .i64 0, .slice none 0 0, .bool false, .int .i64 0] 36)) (w2.setCell ⟨sb, 1, none⟩ (.slice A2 (xs ++ [nn]).length c2)) :=
          Ex.grown (Ex.grown ((ht1.ex (hx.drew) (by simpa using e4) (by simpa using e5)).alloc _) ha2.gb (fun k hk => by have := hvb k hk; simp; omega)) hgb (fun k hk => by cases hk; simp; omega)
        have hsz : W.heap.size ≤ (w2.setCell ⟨sb, 1, none⟩ (.slice A2 (xs ++ [nn]).length c2)).heap.size := by simpa using Nat.le_trans hba ha2.gb.size
        simp only [List.length_append, List.length_cons, List.length_nil] at hS3 hR3 ho3 hx3 hsz
        go_wp2_with fail
        go_roundw
        case rel => exact ⟨m + 1, xs ++ [nn], rest, fl2, _, rfl, hlt, by rw [List.length_append, Hxl.out]; rfl, hrl, hstep, hR3, hS3, ho3, hsz, hx3⟩
        case measure => simp [intOf]; omega
    · have hmz : m = z := by omega
      have hq2 : qn = xs ∧ ql = lr ∧ qf = fl := by
        have h := hg.out
        rw [hmz, Nat.sub_self] at h
        simp only [getMany, List.append_nil, Bool.and_true, Prod.mk.injEq] at h
        exact h
      obtain ⟨rfl, rfl, rfl⟩ := hq2
      have hx01 : Ex w wr := ((Ex.refl w).alloc _).trans hx
      obtain ⟨q0, f0⟩ := hx.both (new_cell w _ _ 0 rfl)
      obtain ⟨q1, f1⟩ := hx.both (new_cell w _ _ 1 rfl)
      obtain ⟨q2, f2⟩ := hx.both (new_cell w _ _ 2 rfl)
      obtain ⟨q3, f3⟩ := hx.both (new_cell w _ _ 3 rfl)
      have hwr : w.heap.size < wr.heap.size := World.block_lt_of_cell? wr _ q0
      clear hg hmz hxr hx41 Hq
      cases qf with
      | false =>
        have hs2 : Hid (decS l = (stZ, 3)) := by rw [Hid, hs.out, if_pos (.inl rfl)]
        clear hs
        go_wp2_with (go_at_call 143; (refine (codec_reader2 _ _ _ _ _ hR).mono ?_); rintro e w5 ⟨rfl, rfl⟩)
        refine bodyPost_ret (v := .tuple #[.agg #[.int .i64 0, .slice none 0 0, .bool false, .int .i64 0], .int .i64 3]) (by simp [results, Tryz.results68, go_sem, q0, q1, q2, q3, hwr]) rfl ⟨none, 0, by rw [hs2.out]; rfl, by rw [hs2.out]; exact Rd.nil _ _ _ _, (fun a ha => by cases ha), ?_⟩
        repeat' first
          | exact hx01
          | refine Ex.alloc ?_ _
          | refine Ex.set ?_ (Nat.le_refl _) _
      | true =>
        by_cases hlp : 0 < ql.length
        · have hs2 : Hid (decS l = (stZ, 3)) := by rw [Hid, hs.out, if_pos (.inr (fun e => by rw [e] at hlp; simp at hlp))]
          clear hs
          go_wp2_with (first | (go_at_call 143; (refine (codec_reader2 _ _ _ _ _ hR).mono ?_); rintro e w5 ⟨rfl, rfl⟩) | (go_at_call 144; (refine (codec_reader3 _ _ _ _ _ hR).mono ?_); rintro e w5 ⟨rfl, rfl⟩))
          refine bodyPost_ret (v := .tuple #[.agg #[.int .i64 0, .slice none 0 0, .bool false, .int .i64 0], .int .i64 3]) (by simp [results, Tryz.results68, go_sem, q0, q1, q2, q3, hwr]) rfl ⟨none, 0, by rw [hs2.out]; rfl, by rw [hs2.out]; exact Rd.nil _ _ _ _, (fun a ha => by cases ha), ?_⟩
          repeat' first
            | exact hx01
            | refine Ex.alloc ?_ _
            | refine Ex.set ?_ (Nat.le_refl _) _
        · have hnil : ql = [] := List.eq_nil_of_length_eq_zero (by omega)
          obtain ⟨A2, c2, rfl, hr2⟩ := ho.rd
          obtain ⟨⟨t0, u0⟩, ⟨t1, u1⟩, ⟨t2, u2⟩, ⟨t3, u3⟩⟩ := hS
          have hs3 : decS l = if mayS ⟨x, qn, decide (0 < y), ((y - 1 : Nat) : Int)⟩ = false then (stZ, 1) else (⟨x, qn, decide (0 < y), ((y - 1 : Nat) : Int)⟩, 0) := by rw [hs.out, if_neg (by rw [hnil]; simp)]
          have hql : qn.length ≤ 4000000000000 := by omega
          have Hxl := Lib.hid hxl; clear hxl
          cases hmay : mayS ⟨x, qn, decide (0 < y), ((y - 1 : Nat) : Int)⟩ with
          | false =>
            have hs2 : Hid (decS l = (stZ, 1)) := by rw [Hid, hs3, if_pos hmay]
            have Hmay := Lib.hid hmay
            clear hs hs3 hmay hnil
            go_wp2_with (first | (go_at_call 143; (refine (codec_reader2 _ _ _ _ _ hR).mono ?_); rintro e w5 ⟨rfl, rfl⟩) | (go_at_call 144; (refine (codec_reader3 _ _ _ _ _ hR).mono ?_); rintro e w5 ⟨rfl, rfl⟩) | (go_at_call 70; go_loud (refine (objs_May ⟨x, qn, decide (0 < y), ((y - 1 : Nat) : Int)⟩ A2 c2 _ hr2 hql).mono ?_); rintro e w6 ⟨rfl, hx6⟩; rw [Hmay.out]; (obtain ⟨q0, f0⟩ := hx6.both ⟨q0, f0⟩); (obtain ⟨q1, f1⟩ := hx6.both ⟨q1, f1⟩); (obtain ⟨q2, f2⟩ := hx6.both ⟨q2, f2⟩); (obtain ⟨q3, f3⟩ := hx6.both ⟨q3, f3⟩); have hwr : w.heap.size < w6.heap.size := World.block_lt_of_cell? w6 _ q0))
            refine bodyPost_ret (v := .tuple #[.agg #[.int .i64 0, .slice none 0 0, .bool false, .int .i64 0], .int .i64 1]) (by simp [results, Tryz.results68, go_sem, q0, q1, q2, q3, hwr]) rfl ⟨none, 0, by rw [hs2.out]; rfl, by rw [hs2.out]; exact Rd.nil _ _ _ _, (fun a ha => by cases ha), ?_⟩
            repeat' first
              | exact hx01.trans hx6
              | refine Ex.alloc ?_ _
              | refine Ex.set ?_ (Nat.le_refl _) _
          | true =>
            have hs2 : Hid (decS l = (⟨x, qn, decide (0 < y), ((y - 1 : Nat) : Int)⟩, 0)) := by rw [Hid, hs3, if_neg (by rw [hmay]; simp)]
            have Hmay := Lib.hid hmay
            clear hs hs3 hmay hnil
            go_wp2_with (first | (go_at_call 143; (refine (codec_reader2 _ _ _ _ _ hR).mono ?_); rintro e w5 ⟨rfl, rfl⟩) | (go_at_call 144; (refine (codec_reader3 _ _ _ _ _ hR).mono ?_); rintro e w5 ⟨rfl, rfl⟩) | (go_at_call 70; go_loud (refine (objs_May ⟨x, qn, decide (0 < y), ((y - 1 : Nat) : Int)⟩ A2 c2 _ hr2 hql).mono ?_); rintro e w6 ⟨rfl, hx6⟩; rw [Hmay.out]; (obtain ⟨q0, f0⟩ := hx6.both ⟨q0, f0⟩); (obtain ⟨q1, f1⟩ := hx6.both ⟨q1, f1⟩); (obtain ⟨q2, f2⟩ := hx6.both ⟨q2, f2⟩); (obtain ⟨q3, f3⟩ := hx6.both ⟨q3, f3⟩); have t0 := hx6.cell t0; have t1 := hx6.cell t1; have t2 := hx6.cell t2; have t3 := hx6.cell t3; have hwr : w.heap.size < w6.heap.size := World.block_lt_of_cell? w6 _ q0))
            refine bodyPost_ret (v := .tuple #[.agg #[.int .i64 x, .slice A2 qn.length c2, .bool (decide (0 < y)), .int .i64 ((y - 1 : Nat) : Int)], .int .i64 0]) (by simp [results, Tryz.results68, go_sem, q0, q1, q2, q3, hwr]) rfl ⟨A2, c2, by rw [hs2.out], ?_, (fun a ha => by subst ha; have h7 := (ho.lt a.block rfl).1; omega), ?_⟩
            · rw [hs2.out]
              have hne : ∀ a, A2 = some a → (some w.heap.size : Option Nat) ≠ some a.block := fun a ha e => by
                subst ha
                have h7 := (ho.lt a.block rfl).1
                have h8 := Option.some.inj e
                omega
              exact ((((hr2.ex hx6).grown (gb_setp _ ⟨w.heap.size, 0, none⟩ _) hne).grown (gb_setp _ ⟨w.heap.size, 1, none⟩ _) hne).grown (gb_setp _ ⟨w.heap.size, 2, none⟩ _) hne).grown (gb_setp _ ⟨w.heap.size, 3, none⟩ _) hne
            · repeat' first
                | exact hx01.trans hx6
                | refine Ex.alloc ?_ _
                | refine Ex.set ?_ (Nat.le_refl _) _
theorem codec_DecodeState (A : Option Addr) (c : Nat) (l : List UInt8) (w : World) (hr : Rd eB w A c l) (hl : l.length ≤ 70000000000000) :
    Calls Tryz.prog 68 #[.slice A l.length c] w fun e w' => ∃ B d, e = .returned (.tuple #[.agg #[.int .i64 (decS l).1.kind, .slice B (decS l).1.l.length d, .bool (decS l).1.sealed, .int .i64 (decS l).1.to], .int .i64 (decS l).2]) ∧ Rd eI w' B d (decS l).1.l ∧ (∀ a, B = some a → w.heap.size ≤ a.block) ∧ Ex w w' := by
  obtain ⟨i, hi⟩ : ∃ i, i = (get l).2 := ⟨_, rfl⟩
  obtain ⟨x, hx⟩ : ∃ x, x = (get l).1 := ⟨_, rfl⟩
  obtain ⟨l1, hl1⟩ : ∃ l1, l1 = l.drop i := ⟨_, rfl⟩
  obtain ⟨j, hj⟩ : ∃ j, j = (get l1).2 := ⟨_, rfl⟩
  obtain ⟨y, hy⟩ : ∃ y, y = (get l1).1 := ⟨_, rfl⟩
  obtain ⟨l2, hl2⟩ : ∃ l2, l2 = l1.drop j := ⟨_, rfl⟩
  obtain ⟨k, hk⟩ : ∃ k, k = (get l2).2 := ⟨_, rfl⟩
  obtain ⟨z, hz⟩ : ∃ z, z = (get l2).1 := ⟨_, rfl⟩
  obtain ⟨l3, hl3⟩ : ∃ l3, l3 = l2.drop k := ⟨_, rfl⟩
  have hylt : y < 4611686018427387904 := by rw [hy]; exact get_lt l1
  have n3 : l3.length ≤ 70000000000000 := by rw [hl3, hl2, hl1, List.length_drop, List.length_drop, List.length_drop]; omega
  have hspec : decS l = if i = 0 ∨ j = 0 ∨ k = 0 ∨ 3 < y ∨ 128 < z then (stZ, 3) else
      if (getMany z l3).2.2 = false ∨ (getMany z l3).2.1 ≠ [] then (stZ, 3) else if mayS ⟨x, (getMany z l3).1, decide (0 < y), ((y - 1 : Nat) : Int)⟩ = false then (stZ, 1) else (⟨x, (getMany z l3).1, decide (0 < y), ((y - 1 : Nat) : Int)⟩, 0) := by
    unfold decS
    simp only [← hi, ← hl1, ← hj, ← hl2, ← hk, ← hx, ← hy, ← hz, ← hl3]
  obtain ⟨f, hf⟩ : ∃ f, f = (((true && decide (0 < i)) && decide (0 < j)) && decide (0 < k)) := ⟨_, rfl⟩
  have HI := Lib.hid hi; have HX := Lib.hid hx; have HL1 := Lib.hid hl1; have HJ := Lib.hid hj; have HY := Lib.hid hy; have HL2 := Lib.hid hl2; have HK := Lib.hid hk; have HZ := Lib.hid hz; have HL3 := Lib.hid hl3; have HF := Lib.hid hf
  have hcase : (f = false ∧ Hid (decS l = (stZ, 3))) ∨ (f = true ∧ 3 < y ∧ Hid (decS l = (stZ, 3))) ∨ (f = true ∧ ¬ 3 < y ∧ 128 < z ∧ Hid (decS l = (stZ, 3))) ∨ (f = true ∧ ¬ 3 < y ∧ ¬ 128 < z ∧ Hid (decS l = if (getMany z l3).2.2 = false ∨ (getMany z l3).2.1 ≠ [] then (stZ, 3) else if mayS ⟨x, (getMany z l3).1, decide (0 < y), ((y - 1 : Nat) : Int)⟩ = false then (stZ, 1) else (⟨x, (getMany z l3).1, decide (0 < y), ((y - 1 : Nat) : Int)⟩, 0))) := by
    have hfi : f = true ↔ 0 < i ∧ 0 < j ∧ 0 < k := by rw [hf]; simp [and_assoc]
    cases f with
    | false => exact .inl ⟨rfl, by rw [Hid, hspec, if_pos (by by_cases h : i = 0 ∨ j = 0 ∨ k = 0; rcases h with h | h | h; exact .inl h; exact .inr (.inl h); exact .inr (.inr (.inl h)); exact absurd (hfi.2 (by omega)) (by simp))]⟩
    | true =>
      have h3 := hfi.1 rfl
      by_cases hy3 : 3 < y
      · exact .inr (.inl ⟨rfl, hy3, by rw [Hid, hspec, if_pos (.inr (.inr (.inr (.inl hy3))))]⟩)
      · by_cases hz3 : 128 < z
        · exact .inr (.inr (.inl ⟨rfl, hy3, hz3, by rw [Hid, hspec, if_pos (.inr (.inr (.inr (.inr hz3))))]⟩))
        · exact .inr (.inr (.inr ⟨rfl, hy3, hz3, by rw [Hid, hspec, if_neg (by omega)]⟩))
  clear hi hx hl1 hj hy hl2 hk hz hl3 hf hspec
  rcases hcase with h | h | h | ⟨hf, hy3, hz3, hs⟩
  · exact codec_DecodeState_bad A c l w hr hl i x l1 j y l2 k z l3 hylt n3 HI HX HL1 HJ HY HL2 HK HZ HL3 f HF (.inl h)
  · exact codec_DecodeState_bad A c l w hr hl i x l1 j y l2 k z l3 hylt n3 HI HX HL1 HJ HY HL2 HK HZ HL3 f HF (.inr (.inl h))
  · exact codec_DecodeState_bad A c l w hr hl i x l1 j y l2 k z l3 hylt n3 HI HX HL1 HJ HY HL2 HK HZ HL3 f HF (.inr (.inr h))
  · exact codec_DecodeState_good A c l w hr hl i x l1 j y l2 k z l3 hylt n3 HI HX HL1 HJ HY HL2 HK HZ HL3 f HF hf hy3 hz3 hs
end Go.Proofs.YtdghbnkegahdnaaGreat.B
