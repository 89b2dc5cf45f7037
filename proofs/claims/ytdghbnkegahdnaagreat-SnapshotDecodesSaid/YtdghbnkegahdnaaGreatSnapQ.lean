/- The walks of package snapshot, fourth part: read's loop. -/
import Derived.Test.YtdghbnkegahdnaaGreatSnapR
set_option linter.unusedVariables false
set_option linter.unusedSimpArgs false
set_option maxRecDepth 100000
set_option maxHeartbeats 2000000
namespace Go.Proofs.YtdghbnkegahdnaaGreat.B
open Go Go.RowKit Go.Proofs

/-- A cell that may be written. -/
def Cl (w : World) (b i : Nat) (v : Value) : Prop := w.cell? ⟨b, i, none⟩ = some v ∧ w.frozen? ⟨b, i, none⟩ = false
/-- A snapshot's cells, of which only the table has been set. -/
def SnAt (w : World) (b : Nat) (v : Value) : Prop := Cl w b 0 (.int .i64 0) ∧ Cl w b 1 (.int .i64 0) ∧ Cl w b 2 (.slice none 0 0) ∧ Cl w b 3 (.bool false) ∧ Cl w b 4 (.int .i64 0) ∧ Cl w b 5 v
theorem Cl.gb {w w' : World} {b i : Nat} {v : Value} (h : Cl w b i v) {row : Option Nat} (hg : w.grownBy w' row) (hne : row ≠ some b) : Cl w' b i v := both_gb hg h (fun e => hne e.symm)
theorem Cl.set {w : World} {b i j : Nat} {v : Value} (h : Cl w b i v) (hij : j ≠ i) (u : Value) : Cl (w.setCell ⟨b, j, none⟩ u) b i v :=
  ⟨(World.cell?_setCell_other w ⟨b, j, none⟩ ⟨b, i, none⟩ u (by intro e; apply hij; cases e; rfl)).trans h.1, by simpa using h.2⟩
theorem SnAt.gb {w w' : World} {b : Nat} {v : Value} (h : SnAt w b v) {row : Option Nat} (hg : w.grownBy w' row) (hne : row ≠ some b) : SnAt w' b v :=
  ⟨h.1.gb hg hne, h.2.1.gb hg hne, h.2.2.1.gb hg hne, h.2.2.2.1.gb hg hne, h.2.2.2.2.1.gb hg hne, h.2.2.2.2.2.gb hg hne⟩
theorem SnAt.ex {w w' : World} {b : Nat} {v : Value} (h : SnAt w b v) (hx : Ex w w') : SnAt w' b v :=
  ⟨hx.both h.1, hx.both h.2.1, hx.both h.2.2.1, hx.both h.2.2.2.1, hx.both h.2.2.2.2.1, hx.both h.2.2.2.2.2⟩
theorem SnAt.set {w : World} {b : Nat} {v : Value} (h : SnAt w b v) (u : Value) : SnAt (w.setCell ⟨b, 5, none⟩ u) b u :=
  ⟨h.1.set (by decide) u, h.2.1.set (by decide) u, h.2.2.1.set (by decide) u, h.2.2.2.1.set (by decide) u, h.2.2.2.2.1.set (by decide) u, ⟨World.cell?_setCell_same _ _ _ h.2.2.2.2.2.1, by simpa using h.2.2.2.2.2.2⟩⟩
def SnFull (w : World) (b : Nat) (k1 k2 k3 k4 v : Value) : Prop := Cl w b 0 (.int .i64 0) ∧ Cl w b 1 k1 ∧ Cl w b 2 k2 ∧ Cl w b 3 k3 ∧ Cl w b 4 k4 ∧ Cl w b 5 v
theorem Cl.put {w : World} {b i : Nat} {v : Value} (h : Cl w b i v) (u : Value) : Cl (w.setCell ⟨b, i, none⟩ u) b i u := ⟨World.cell?_setCell_same _ _ _ h.1, by simpa using h.2⟩
theorem SnFull.s0 {w : World} {b : Nat} {k1 k2 k3 k4 v : Value} (h : SnFull w b k1 k2 k3 k4 v) : SnFull (w.setCell ⟨b, 0, none⟩ (.int .i64 0)) b k1 k2 k3 k4 v := ⟨h.1.put _, h.2.1.set (by decide) _, h.2.2.1.set (by decide) _, h.2.2.2.1.set (by decide) _, h.2.2.2.2.1.set (by decide) _, h.2.2.2.2.2.set (by decide) _⟩
theorem SnFull.s1 {w : World} {b : Nat} {k1 k2 k3 k4 v : Value} (h : SnFull w b k1 k2 k3 k4 v) (u : Value) : SnFull (w.setCell ⟨b, 1, none⟩ u) b u k2 k3 k4 v := ⟨h.1.set (by decide) _, h.2.1.put _, h.2.2.1.set (by decide) _, h.2.2.2.1.set (by decide) _, h.2.2.2.2.1.set (by decide) _, h.2.2.2.2.2.set (by decide) _⟩
theorem SnFull.s2 {w : World} {b : Nat} {k1 k2 k3 k4 v : Value} (h : SnFull w b k1 k2 k3 k4 v) (u : Value) : SnFull (w.setCell ⟨b, 2, none⟩ u) b k1 u k3 k4 v := ⟨h.1.set (by decide) _, h.2.1.set (by decide) _, h.2.2.1.put _, h.2.2.2.1.set (by decide) _, h.2.2.2.2.1.set (by decide) _, h.2.2.2.2.2.set (by decide) _⟩
theorem SnFull.s3 {w : World} {b : Nat} {k1 k2 k3 k4 v : Value} (h : SnFull w b k1 k2 k3 k4 v) (u : Value) : SnFull (w.setCell ⟨b, 3, none⟩ u) b k1 k2 u k4 v := ⟨h.1.set (by decide) _, h.2.1.set (by decide) _, h.2.2.1.set (by decide) _, h.2.2.2.1.put _, h.2.2.2.2.1.set (by decide) _, h.2.2.2.2.2.set (by decide) _⟩
theorem SnFull.s4 {w : World} {b : Nat} {k1 k2 k3 k4 v : Value} (h : SnFull w b k1 k2 k3 k4 v) (u : Value) : SnFull (w.setCell ⟨b, 4, none⟩ u) b k1 k2 k3 u v := ⟨h.1.set (by decide) _, h.2.1.set (by decide) _, h.2.2.1.set (by decide) _, h.2.2.2.1.set (by decide) _, h.2.2.2.2.1.put _, h.2.2.2.2.2.set (by decide) _⟩
theorem SnFull.s5 {w : World} {b : Nat} {k1 k2 k3 k4 v : Value} (h : SnFull w b k1 k2 k3 k4 v) (u : Value) : SnFull (w.setCell ⟨b, 5, none⟩ u) b k1 k2 k3 k4 u := ⟨h.1.set (by decide) _, h.2.1.set (by decide) _, h.2.2.1.set (by decide) _, h.2.2.2.1.set (by decide) _, h.2.2.2.2.1.set (by decide) _, h.2.2.2.2.2.put _⟩
/-- The four cells of a state set, then all six anew. -/
theorem sn_full {w : World} {b : Nat} {v : Value} (h : SnAt w b v) (k1 k2 k3 k4 : Value) :
    SnFull ((((((((((w.setCell ⟨b, 1, none⟩ k1).setCell ⟨b, 2, none⟩ k2).setCell ⟨b, 3, none⟩ k3).setCell ⟨b, 4, none⟩ k4).setCell ⟨b, 0, none⟩ (.int .i64 0)).setCell ⟨b, 1, none⟩ k1).setCell ⟨b, 2, none⟩ k2).setCell ⟨b, 3, none⟩ k3).setCell ⟨b, 4, none⟩ k4).setCell ⟨b, 5, none⟩ v) b k1 k2 k3 k4 v := by
  obtain ⟨h0, h1, h2, h3, h4, h5⟩ := h
  have a1 : SnFull (w.setCell ⟨b, 1, none⟩ k1) b k1 (.slice none 0 0) (.bool false) (.int .i64 0) v := ⟨h0.set (by decide) _, h1.put _, h2.set (by decide) _, h3.set (by decide) _, h4.set (by decide) _, h5.set (by decide) _⟩
  have a2 := (a1.s2 k2).s3 k3 |>.s4 k4 |>.s0
  exact a2.s1 k1 |>.s2 k2 |>.s3 k3 |>.s4 k4 |>.s5 v
theorem rd_pos {α : Type} {E : Enc α} {w w' : World} {A : Option Addr} {c : Nat} {xs : List α} (h : Rd E w A c xs) {row : Option Nat} (hg : w.grownBy w' row) (hne : 0 < xs.length → ∀ a, A = some a → row ≠ some a.block) : Rd E w' A c xs := by
  rcases Nat.eq_zero_or_pos xs.length with h0 | h0
  · obtain rfl : xs = [] := List.eq_nil_of_length_eq_zero h0
    exact Rd.nil _ _ _ _
  · exact h.grown hg (hne h0)
theorem infoE : (Tryz.prog.info? 72).map (fun i => (i.zero, i.size, i.bytes)) = some (some (.agg #[.int .i64 0, .int .i64 0, .int .i64 0]), 3, 24) := by kernel_rfl
theorem get_es (m q : Nat) (h : q < m) (r : List UInt8) : getEs (m - q) r = if (getE r).2 = 0 then none else (getEs (m - (q + 1)) (r.drop (getE r).2)).map fun p => ((getE r).1 :: p.1, p.2) := by
  rw [show m - q = (m - (q + 1)) + 1 by omega]; rfl
theorem snap_read_3 (A : Option Addr) (c : Nat) (b : List UInt8) (w : World) (hr : Rd eB w A c b) (hl : b.length ≤ 1000000000000) (n k : Nat) (HN : Hid (n = (get b).1)) (HK : Hid (k = (get b).2)) (hkl : k + n ≤ b.length)
    (h1 : ((k : Int) == 0) = false) (y : List UInt8) (HY : Hid (y = (b.take (k + n)).drop k)) (er : Int) (HE : Hid (er = (decS y).2)) (v : List UInt8) (HV : Hid (v = b.drop (k + n)))
    (m j : Nat) (HM : Hid (m = (get v).1)) (HJ : Hid (j = (get v).2)) (hjl : j ≤ v.length) (v1 : List UInt8) (HV1 : Hid (v1 = v.drop j)) (h3 : (er == 3) = false) (h4 : ((j : Int) == 0) = false) (h5 : ¬ v.length < m)
    (HS : Hid (readN b = endN (decS y).1 er (getEs m v1))) :
    Calls Tryz.prog 34 #[.slice A b.length c] w (ReadR b w) := by
  have gw : wrap64 ((b.length : Int) - (k : Int)) = (b.length : Int) - (k : Int) := by unfold wrap64; omega
  have gs : wrap64 ((k : Int) + (n : Int)) = (k : Int) + (n : Int) := by unfold wrap64; omega
  have h2 : ¬ (b.length : Int) - (k : Int) < (n : Int) := by omega
  obtain ⟨A0, c0, y0, hy0, run0, r0⟩ := cut_mid (P := Tryz.prog) w 22 5 Tryz.underlying22 sizeB hr (k : Int) ((k : Int) + (n : Int)) (by omega) (by omega) (by omega)
  obtain ⟨A1, c1, v0, hv0, run1, r1⟩ := cut_from (P := Tryz.prog) w 22 5 Tryz.underlying22 sizeB hr ((k : Int) + (n : Int)) (by omega) (by omega)
  obtain rfl : y0 = y := by rw [hy0.out, HY.out]; congr 1
  obtain rfl : v0 = v := by rw [hv0.out, HV.out]; congr 1
  have hyl : y0.length ≤ 70000000000000 := by have h := HY.out; rw [h, List.length_drop, List.length_take]; omega
  have hvl : v0.length ≤ 70000000000000 := by have h := HV.out; rw [h, List.length_drop]; omega
  obtain ⟨A2, c2, u0, hu0, run2, r2⟩ := cut_from (P := Tryz.prog) w 22 5 Tryz.underlying22 sizeB r1 (j : Int) (by omega) (by omega)
  obtain rfl : u0 = v1 := by rw [hu0.out, HV1.out]; congr 1
  have hul : u0.length ≤ 70000000000000 := by have h := HV1.out; rw [h, List.length_drop]; omega
  have hm7 : m ≤ 1000000000000 := by have h := HV.out; rw [h, List.length_drop] at h5; omega
  clear hy0 hv0 hu0
  go_enter Tryz.func34, Tryz.ntmps34
  go_wp2_with (first
    | (go_at_call 68; refine (codec_DecodeState A0 c0 y0 _ (r0.ex (by repeat' first | exact Ex.refl _ | refine Ex.alloc ?_ _ | refine Ex.set ?_ (Nat.le_refl _) _)) hyl).mono ?_; rintro e w1 ⟨B, d, rfl, hB, hBn, hx1⟩; rw [← HE.out]; have hSn : SnAt w1 w.heap.size (.slice none 0 0) := ⟨hx1.both (new_cell w _ _ 0 rfl), hx1.both (new_cell w _ _ 1 rfl), hx1.both (new_cell w _ _ 2 rfl), hx1.both (new_cell w _ _ 3 rfl), hx1.both (new_cell w _ _ 4 rfl), hx1.both (new_cell w _ _ 5 rfl)⟩; have hx01 : Ex w w1 := ((Ex.refl w).alloc _).trans hx1)
    | (go_at_call_of 64 A1; refine (num_Get A1 c1 v0 _ (r1.ex (by with_reducible (repeat' first | exact hx01 | refine Ex.alloc ?_ _ | refine Ex.set ?_ (Nat.le_refl _) _)))).mono ?_; rintro e w2 ⟨rfl, rfl⟩; rw [← HM.out, ← HJ.out])
    | (go_at_call 64; refine (num_Get A c b _ (hr.ex (by repeat' first | exact Ex.refl _ | refine Ex.alloc ?_ _ | refine Ex.set ?_ (Nat.le_refl _) _))).mono ?_; rintro e w1 ⟨rfl, rfl⟩; rw [← HN.out, ← HK.out]))
  have hw1 : w.heap.size < w1.heap.size := World.block_lt_of_cell? w1 _ hSn.1.1
  obtain ⟨st, hst⟩ : ∃ st, st = (decS y0).1 := ⟨_, rfl⟩
  have HBn : Hid (∀ a, B = some a → w.heap.size < a.block) := fun a ha => by have := hBn a ha; simp at this; omega
  clear hBn
  rw [← hst] at hB
  rw [← hst]
  obtain ⟨W, hW⟩ : ∃ W, W = w1.alloc (.cells #[.int .i64 st.kind, .slice B st.l.length d, .bool st.sealed, .int .i64 st.to] 36) := ⟨_, rfl⟩
  have hxW : Ex w1 W := by rw [hW]; exact (Ex.refl w1).alloc _
  have hS0 : StAt W w1.heap.size st.kind (.slice B st.l.length d) st.sealed st.to := by rw [hW]; exact ⟨new_cell _ _ _ 0 rfl, new_cell _ _ _ 1 rfl, new_cell _ _ _ 2 rfl, new_cell _ _ _ 3 rfl⟩
  have hSn0 := hSn.ex hxW
  have hWs : w1.heap.size < W.heap.size := by rw [hW]; simp
  have hBW := hB.ex hxW
  have hxw := hx01.trans hxW
  have HBl : Hid (0 < st.l.length → ∀ a, B = some a → a.block < W.heap.size) := fun hp a ha => by
    obtain ⟨ad, e, hlt, _⟩ := hBW.2.2 hp
    rw [e] at ha; cases ha; exact hlt
  rw [← hW]
  have Hst := Lib.hid hst
  clear hW hst hSn hB
  obtain ⟨sb, hsb⟩ : ∃ sb, sb = w1.heap.size := ⟨_, rfl⟩
  rw [← hsb] at hS0 hWs hw1
  rw [← hsb]
  have Hsb := Lib.hid hsb; clear hsb
  have HS' := HS
  clear HS
  go_loopw [0, 3, 63] (fun z ev i wr => ∃ (q : Nat) (tb : List Ent) (A' : Option Addr) (c' : Nat) (r : List UInt8) (vt : Value), ev = .int .i64 er ∧ i = .int .i64 q ∧ q ≤ m ∧ tb.length = q ∧ z = .slice A' r.length c' ∧ Rd eB w A' c' r ∧ r.length ≤ 70000000000000 ∧ Hid (getEs m u0 = (getEs (m - q) r).map fun p => (tb ++ p.1, p.2)) ∧
      SnAt wr w.heap.size vt ∧ StAt wr sb st.kind (.slice B st.l.length d) st.sealed st.to ∧ Own eE 72 wr W.heap.size vt tb ∧ W.heap.size ≤ wr.heap.size ∧ Ex w wr ∧ Rd eI wr B d st.l) (fun _ _ i _ => (m - intOf i).toNat)
  case atStart => exact ⟨0, [], A2, c2, u0, _, rfl, rfl, by omega, rfl, rfl, r2, hul, by rw [Nat.sub_zero]; cases getEs m u0 <;> rfl, hSn0, hS0, Own.nil _ _ _ _, Nat.le_refl _, hxw, hBW⟩
  case round =>
    obtain ⟨q, tb, A', c', r, vt, rfl, rfl, hq, htl, rfl, hrr, hrl, hg, hSn, hSt, ho, hle, hx, hBr⟩ := hrel
    obtain ⟨A4, c4, rfl, hr4⟩ := ho.rd
    have Htl := Lib.hid htl; clear htl
    by_cases hlt : q < m
    · have hgs := get_es m q hlt r
      have hge := getE_le r
      obtain ⟨sz, hsz⟩ : ∃ sz, sz = (getE r).2 := ⟨_, rfl⟩
      rw [← hsz] at hgs hge
      have Hsz := Lib.hid hsz
      by_cases h0 : sz = 0
      · have hs : Hid ((readN b).2 = 3) := by
          have h := hg.out
          rw [hgs, if_pos h0] at h
          rw [Hid, HS'.out, h]; rfl
        have h0b : ((sz : Int) == 0) = true := by rw [h0]; rfl
        clear hsz h0 hgs
        go_wp2_with (go_at_call 69; go_loud (refine (snap_entry A' c' r _ (hrr.ex hx) hrl).mono ?_); rintro e w3 ⟨x, y, z, rfl, _, hx3⟩; rw [← Hsz.out]; (obtain ⟨⟨q0, f0⟩, ⟨q1, f1⟩, ⟨q2, f2⟩, ⟨q3, f3⟩, ⟨q4, f4⟩, ⟨q5, f5⟩⟩ := hSn.ex hx3); have hw3 : w.heap.size < w3.heap.size := World.block_lt_of_cell? w3 _ q0)
        refine bodyPost_ret (v := .tuple #[.agg #[.int .i64 0, .int .i64 0, .slice none 0 0, .bool false, .int .i64 0, .slice A4 tb.length c4], .int .i64 3]) (by simp [results, Tryz.results34, go_sem, q0, q1, q2, q3, q4, q5, hw3]) rfl ⟨0, 0, none, 0, 0, false, 0, A4, tb.length, c4, by rw [hs.out], (fun h => by rw [hs.out] at h; cases h), (by have hxx := hx.trans hx3; with_reducible (repeat' first | exact hxx | refine Ex.alloc ?_ _ | refine Ex.set ?_ (Nat.le_refl _) _))⟩
      · have hx3' : True := trivial
        obtain ⟨A5, c5, r', hr5, run5, rr5⟩ := cut_from (P := Tryz.prog) w 22 5 Tryz.underlying22 sizeB hrr (sz : Int) (by omega) (by omega)
        have hr5e : r' = r.drop sz := by have h := hr5.out; rw [Int.toNat_natCast] at h; exact h
        obtain ⟨en, hen⟩ : ∃ en, en = (getE r).1 := ⟨_, rfl⟩
        have hstep : Hid (getEs m u0 = (getEs (m - (q + 1)) r').map fun p => ((tb ++ [en]) ++ p.1, p.2)) := by
          have h := hg.out
          rw [hgs, if_neg h0, ← hen, ← hr5e] at h
          rw [Hid, h, Option.map_map]
          congr 1
          funext p
          simp
        have hrl' : r'.length ≤ 70000000000000 := by rw [hr5e, List.length_drop]; omega
        have h0b : ((sz : Int) == 0) = false := by rw [beq_eq_false_iff_ne]; omega
        have Hen := Lib.hid hen
        have h0n := Lib.hid (show (getE r).2 ≠ 0 by rw [← hsz]; exact h0)
        have hvb : ∀ k', (Value.slice A4 tb.length c4).ownBlock = some k' → W.heap.size ≤ k' := fun k' hk => (ho.lt k' hk).1
        clear hsz h0 hgs hr5 hr5e hen hg
        go_wp2_with (go_at_call 69; go_loud (refine (snap_entry A' c' r _ (hrr.ex hx) hrl).mono ?_); rintro e w3 ⟨x, y, z, rfl, hent, hx3⟩; rw [← Hsz.out])
        have hee : en = ⟨x, y, z⟩ := by rw [Hen.out]; exact hent.out h0n.out
        obtain ⟨W3, hW3⟩ : ∃ W3, W3 = w3.alloc (.cells #[.int .i64 x, .int .i64 y, .int .i64 z] 72) := ⟨_, rfl⟩
        have hx33 : Ex w3 W3 := by rw [hW3]; exact (Ex.refl w3).alloc _
        have e0 : W3.cell? ⟨w3.heap.size, 0, none⟩ = some (.int .i64 x) := by rw [hW3]; exact (new_cell _ _ _ 0 rfl).1
        have e1 : W3.cell? ⟨w3.heap.size, 1, none⟩ = some (.int .i64 y) := by rw [hW3]; exact (new_cell _ _ _ 1 rfl).1
        have e2 : W3.cell? ⟨w3.heap.size, 2, none⟩ = some (.int .i64 z) := by rw [hW3]; exact (new_cell _ _ _ 2 rfl).1
        rw [← hW3]
        clear hW3
        have hxx := hx3.trans hx33
        have hSn3 := hSn.ex hxx
        have hSt3 := hSt.ex hxx
        have ho3 := ho.ex hxx
        have hBr3 := hBr.ex hxx
        have hle3 := Nat.le_trans hle hxx.le
        have c5 := hSn3.2.2.2.2.2.1
        have hxa : Ex W3 (W3.alloc (.cells #[.int .i64 x, .int .i64 y, .int .i64 z] 72)).drew := ((Ex.refl W3).alloc _).drew
        have hra : Rd eE (W3.alloc (.cells #[.int .i64 x, .int .i64 y, .int .i64 z] 72)).drew (some ⟨W3.heap.size, 0, none⟩) 1 [⟨x, y, z⟩] := (rd_lit1 eE W3 72 ⟨x, y, z⟩).ex (Ex.refl _).drew
        have hwW3 : w.heap.size < W3.heap.size := World.block_lt_of_cell? W3 _ c5
        have hoa := ho3.ex hxa
        have hSa := hSn3.ex hxa
        have hSta := hSt3.ex hxa
        have hBa := hBr3.ex hxa
        have hla : W.heap.size ≤ (W3.alloc (.cells #[.int .i64 x, .int .i64 y, .int .i64 z] 72)).drew.heap.size := Nat.le_trans hle3 hxa.le
        have hlx2 : (tb.length + [(⟨x, y, z⟩ : Ent)].length) * 24 ≤ 140737488355328 := by have := Htl.out; simp only [List.length_cons, List.length_nil]; omega
        have hnr : (Value.slice A4 tb.length c4).ownBlock ≠ some w.heap.size := fun e => by have := hvb _ e; omega
        have hns : (Value.slice A4 tb.length c4).ownBlock ≠ some sb := fun e => by have := hvb _ e; omega
        go_region_law (first
          | (refine own_appR_h eE W.heap.size rfl (.tmp 74) (.tmp 76) 37 72 (.agg #[.int .i64 0, .int .i64 0, .int .i64 0]) 24 rfl Tryz.underlying37 infoE rfl (by decide) _ tb [⟨x, y, z⟩] (some ⟨W3.heap.size, 0, none⟩) 1 rfl rfl hoa hra hla hlx2 ?_; intro v2 w2 ha2; (obtain ⟨A6, c6, rfl, hr6⟩ := ha2.own.rd); have hS2 := hSa.gb ha2.gb hnr; (obtain ⟨s0, s1⟩ := hS2.2.2.2.2.2)))
        all_goals
          have hgb := gb_setp w2 ⟨w.heap.size, 5, none⟩ (.slice A6 (tb ++ [(⟨x, y, z⟩ : Ent)]).length c6)
          have hS9 := hS2.set (.slice A6 (tb ++ [(⟨x, y, z⟩ : Ent)]).length c6)
          have hSt9 := (hSta.gb ha2.gb hns).gb hgb (fun e => by have := Option.some.inj e; simp at this; omega)
          have ho9 := ha2.own.gb hgb (.inr (fun e => by have := (ha2.own.lt _ e).1; simp at this; omega))
          have hx2 : Ex w w2 := (((hx.trans hxx).trans hxa)).grown ha2.gb (fun k' hk => by have := hvb k' hk; omega)
          have hx9 : Ex w (w2.setCell ⟨w.heap.size, 5, none⟩ (.slice A6 (tb ++ [(⟨x, y, z⟩ : Ent)]).length c6)) := hx2.set (Nat.le_refl _) _
          have hl9 : W.heap.size ≤ (w2.setCell ⟨w.heap.size, 5, none⟩ (.slice A6 (tb ++ [(⟨x, y, z⟩ : Ent)]).length c6)).heap.size := by simpa using Nat.le_trans hla ha2.gb.size
          have hB9 : Rd eI (w2.setCell ⟨w.heap.size, 5, none⟩ (.slice A6 (tb ++ [(⟨x, y, z⟩ : Ent)]).length c6)) B d st.l := (rd_pos hBa ha2.gb (fun hp a ha e => by have h7 := hvb _ e; have h8 := HBl.out hp a ha; omega)).grown hgb (fun a ha e => by have h8 := HBn.out a ha; have := Option.some.inj e; simp at this; omega)
          rw [hee] at hstep
          simp only [List.length_append, List.length_cons, List.length_nil] at hS9 hSt9 ho9 hx9 hl9 hB9
          go_wp2_with fail
          go_roundw
          case rel => exact ⟨q + 1, tb ++ [⟨x, y, z⟩], A5, _, r', _, rfl, rfl, hlt, by rw [List.length_append, Htl.out]; rfl, rfl, rr5, hrl', hstep, hS9, hSt9, ho9, hl9, hx9, hB9⟩
          case measure => simp [intOf]; omega
    · have hqm : q = m := by omega
      have he : getEs m u0 = some (tb, r) := by
        have h := hg.out
        rw [hqm, Nat.sub_self] at h
        rw [h]; simp [getEs]
      have hspec : readN b = if 0 < r.length then (snZ, 3) else (⟨0, (decS y0).1, tb⟩, er) := by rw [HS'.out, he]; rfl
      have HSN := Lib.hid hSn
      obtain ⟨⟨q0, f0⟩, ⟨q1, f1⟩, ⟨q2, f2⟩, ⟨q3, f3⟩, ⟨q4, f4⟩, ⟨q5, f5⟩⟩ := hSn
      obtain ⟨⟨t0, _⟩, ⟨t1, _⟩, ⟨t2, _⟩, ⟨t3, _⟩⟩ := hSt
      have hwr : w.heap.size < wr.heap.size := World.block_lt_of_cell? wr _ q0
      by_cases hrp : 0 < r.length
      · have hs : Hid ((readN b).2 = 3) := by rw [Hid, hspec, if_pos hrp]
        clear hspec he hqm hg
        go_wp2_with fail
        refine bodyPost_ret (v := .tuple #[.agg #[.int .i64 0, .int .i64 0, .slice none 0 0, .bool false, .int .i64 0, .slice A4 tb.length c4], .int .i64 3]) (by simp [results, Tryz.results34, go_sem, q0, q1, q2, q3, q4, q5, hwr]) rfl ⟨0, 0, none, 0, 0, false, 0, A4, tb.length, c4, by rw [hs.out], (fun h => by rw [hs.out] at h; cases h), (by with_reducible (repeat' first | exact hx | refine Ex.alloc ?_ _ | refine Ex.set ?_ (Nat.le_refl _) _))⟩
      · have hs : Hid (readN b = (⟨0, st, tb⟩, er)) := by rw [Hid, hspec, if_neg hrp, Hst.out]
        clear hspec he hqm hg
        go_wp2_with fail
        have hfull := sn_full HSN.out (.int .i64 st.kind) (.slice B st.l.length d) (.bool st.sealed) (.int .i64 st.to)
        obtain ⟨Wf, hWf⟩ : ∃ Wf, Wf = ((((((((((wr.setCell ⟨w.heap.size, 1, none⟩ (.int .i64 st.kind)).setCell ⟨w.heap.size, 2, none⟩ (.slice B st.l.length d)).setCell ⟨w.heap.size, 3, none⟩ (.bool st.sealed)).setCell ⟨w.heap.size, 4, none⟩ (.int .i64 st.to)).setCell ⟨w.heap.size, 0, none⟩ (.int .i64 0)).setCell ⟨w.heap.size, 1, none⟩ (.int .i64 st.kind)).setCell ⟨w.heap.size, 2, none⟩ (.slice B st.l.length d)).setCell ⟨w.heap.size, 3, none⟩ (.bool st.sealed)).setCell ⟨w.heap.size, 4, none⟩ (.int .i64 st.to)).setCell ⟨w.heap.size, 5, none⟩ (.slice A4 tb.length c4)) := ⟨_, rfl⟩
        rw [← hWf] at hfull
        have hxf : Ex w Wf := by
          rw [hWf]
          with_reducible
            repeat' first
              | exact hx
              | refine Ex.set ?_ (Nat.le_refl _) _
        have hBf : Rd eI Wf B d st.l := by
          rw [hWf]
          with_reducible
            repeat' first
              | exact hBr
              | refine Rd.grown ?_ (gb_setp _ _ _) (fun a ha e => by have h8 := HBn.out a ha; have := Option.some.inj e; simp only at this; omega)
        have hTf : Rd eE Wf A4 c4 tb := by
          rw [hWf]
          with_reducible
            repeat' first
              | exact hr4
              | refine Rd.grown ?_ (gb_setp _ _ _) (fun a ha e => by subst ha; have h8 := (ho.lt a.block rfl).1; have := Option.some.inj e; simp only at this; omega)
        rw [← hWf]
        clear hWf q0 q1 q2 q3 q4 q5
        obtain ⟨⟨g0, _⟩, ⟨g1, _⟩, ⟨g2, _⟩, ⟨g3, _⟩, ⟨g4, _⟩, ⟨g5, _⟩⟩ := hfull
        refine bodyPost_ret (v := .tuple #[.agg #[.int .i64 0, .int .i64 st.kind, .slice B st.l.length d, .bool st.sealed, .int .i64 st.to, .slice A4 tb.length c4], .int .i64 er]) (by simp [results, Tryz.results34, go_sem, g0, g1, g2, g3, g4, g5]) rfl ⟨0, st.kind, B, st.l.length, d, st.sealed, st.to, A4, tb.length, c4, by rw [hs.out], (fun _ => by rw [hs.out]; exact ⟨rfl, rfl, rfl, rfl, rfl, hBf, hTf, fun a ha => Nat.le_of_lt (HBn.out a ha), fun a ha => by subst ha; exact Nat.le_trans hxw.le (ho.lt a.block rfl).1⟩), hxf⟩
end Go.Proofs.YtdghbnkegahdnaaGreat.B
