/- The walks of package crc. -/
import Derived.Test.YtdghbnkegahdnaaGreatNumW
import Derived.Test.YtdghbnkegahdnaaGreatCrc
import Derived.Laws.Tables
set_option linter.unusedVariables false
set_option linter.unusedSimpArgs false
set_option maxRecDepth 100000
set_option maxHeartbeats 1000000
namespace Go.Proofs.YtdghbnkegahdnaaGreat.B
open Go Go.RowKit Go.Proofs

theorem zero140 : Tryz.zeroCells137.size = 256 := by decide +kernel
theorem size140 : (Tryz.prog.info? 137).map (·.size) = some 256 := by kernel_rfl
/-- The block of a table of which k entries are made. -/
def TabAt (w : World) (b k : Nat) : Prop := ∃ cur, w.heap[b]? = some (.cells cur 137 (0, 0)) ∧ cur.size = 256 ∧ ∀ j, j < k → cur[j]? = some (.int .u32 (crcN 8 j))
theorem TabAt.cell {w : World} {b k : Nat} (h : TabAt w b k) (j : Nat) (hj : j < 256) : (∃ u, w.cell? ⟨b, j, none⟩ = some u) ∧ w.frozen? ⟨b, j, none⟩ = false := by
  obtain ⟨cur, hh, hs, _⟩ := h
  exact ⟨⟨cur[j]'(by omega), by rw [cell_of_row w b j cur _ _ hh]; exact Array.getElem?_eq_getElem _⟩, frozen_of_row w b j cur _ hh⟩
theorem TabAt.get {w : World} {b k : Nat} (h : TabAt w b k) (j : Nat) (hj : j < k) : w.cell? ⟨b, j, none⟩ = some (.int .u32 (crcN 8 j)) := by
  obtain ⟨cur, hh, hs, hc⟩ := h
  rw [cell_of_row w b j cur _ _ hh]; exact hc j hj
theorem TabAt.set {w : World} {b k : Nat} (h : TabAt w b k) (hk : k < 256) : TabAt (w.setCell ⟨b, k, none⟩ (.int .u32 (crcN 8 k))) b (k + 1) := by
  obtain ⟨cur, hh, hs, hc⟩ := h
  refine ⟨cur.setIfInBounds k (.int .u32 (crcN 8 k)), heap_setCell_same w b k cur _ _ hh, by simpa using hs, fun j hj => ?_⟩
  rw [Array.getElem?_setIfInBounds]
  split
  · rename_i e; subst e; rw [if_pos (by omega)]
  · exact hc j (by omega)
theorem TabAt.other {w : World} {b k g i : Nat} {v : Value} (h : TabAt w b k) (hne : b ≠ g) : TabAt (w.setCell ⟨g, i, none⟩ v) b k := by
  obtain ⟨cur, hh, hs, hc⟩ := h
  exact ⟨cur, by rw [heap_setCell_other w ⟨g, i, none⟩ b v hne]; exact hh, hs, hc⟩
theorem TabAt.ex {w w' : World} {b k : Nat} (h : TabAt w b k) (hx : Ex w w') : TabAt w' b k := by
  obtain ⟨cur, hh, hs, hc⟩ := h
  exact ⟨cur, hx.heap hh, hs, hc⟩
theorem TabAt.lt {w : World} {b k : Nat} (h : TabAt w b k) : b < w.heap.size := by
  obtain ⟨cur, hh, hs, hc⟩ := h
  exact (Array.getElem?_eq_some_iff.1 hh).1

theorem crc_Table (w : World) : Calls Tryz.prog 107 #[] w fun e w' => ∃ cs, e = .returned (.agg cs) ∧ cs.size = 256 ∧ (∀ j, j < 256 → cs[j]? = some (.int .u32 (crcN 8 j))) ∧ Ex w w' := by
  have hz := zero140
  have h0 : TabAt ((w.alloc (.cells Tryz.zeroCells137 137)).alloc (.cells Tryz.zeroCells137 137)) w.heap.size 0 := ⟨_, heap_alloc2_old _ _ _, hz, fun j h => absurd h (by omega)⟩
  have h1 : TabAt ((w.alloc (.cells Tryz.zeroCells137 137)).alloc (.cells Tryz.zeroCells137 137)) (w.heap.size + 1) 0 := ⟨_, heap_alloc2_new _ _ _, hz, fun j h => absurd h (by omega)⟩
  clear hz
  go_enter Tryz.func107, Tryz.ntmps107
  go_wp2
  go_loopw [5] (fun i wr => ∃ k : Nat, i = .int .i64 k ∧ k ≤ 256 ∧ Ex w wr ∧ TabAt wr w.heap.size 0 ∧ TabAt wr (w.heap.size + 1) k) (fun i _ => (256 - intOf i).toNat)
  case atStart => exact ⟨0, rfl, by omega, ((Ex.refl w).alloc _).alloc _, h0, h1⟩
  case round =>
    clear h0 h1
    obtain ⟨k, rfl, hk, hx, h0, h1⟩ := hrel
    by_cases hlt : k < 256
    · go_wp2
      go_loop [3, 10] (fun x i => ∃ m : Nat, i = .int .i64 m ∧ m ≤ 8 ∧ x = .int .u32 (crcN m k)) (fun _ i => (8 - intOf i).toNat)
      case atStart => exact ⟨0, rfl, by omega, rfl⟩
      case round =>
        obtain ⟨m, rfl, hm, rfl⟩ := hrel
        have hb := crcN_lt m k (by omega)
        by_cases hm8 : m < 8
        · have hst := Lib.hid (crcS_bits (crcN m k) hb)
          go_wp2
          go_round
          case rel => exact ⟨m + 1, rfl, by omega, vint hst.out⟩
          case measure => simp [intOf]; omega
        · obtain rfl : m = 8 := by omega
          obtain ⟨⟨u, hc⟩, hf⟩ := h1.cell k hlt
          go_wp2
          go_roundw
          case rel => exact ⟨k + 1, rfl, by omega, hx.set (by simp) _, h0.other (by omega), h1.set hlt⟩
          case measure => simp [intOf]; omega
    · obtain rfl : k = 256 := by omega
      obtain ⟨cs, g1, g2, g3⟩ := h1
      obtain ⟨zs, f1, f2, f3⟩ := h0
      have hall : cs.all (·.oneCell') = true := by
        rw [Array.all_eq_true]
        intro i hi
        have h := g3 i (by omega)
        rw [Array.getElem?_eq_getElem hi] at h
        injection h with h
        rw [h]; rfl
      go_wp2_with (first | (with_reducible refine wpList_load_row rfl 137 (.tmp 1) rfl (w.heap.size + 1) rfl 137 cs (0, 0) _ g1 Tryz.underlying137 rfl (size140.trans (by rw [g2])) ?_) | (with_reducible refine wpList_store_row rfl 137 (.tmp 0) (.tmp 25) rfl w.heap.size cs rfl rfl 137 zs f1 (size140.trans (by rw [g2])) (f2.trans g2.symm) hall ?_))
      refine bodyPost_ret (results_cell_row rfl _ _ w.heap.size 137 cs (0, 0) _ rfl (setRow_heap wr w.heap.size zs cs _ _ f1) Tryz.underlying137 rfl (size140.trans (by rw [g2]))) rfl ⟨cs, rfl, g2, g3, ?_⟩
      exact hx.grown (row := some w.heap.size) ⟨rfl, rfl, rfl, by simp, fun k _ hk => setRow_other wr w.heap.size k _ (fun e => hk (by rw [e]))⟩ (fun k h => by injection h with h; omega)

theorem tab_all {cs : Array Value} (g2 : cs.size = 256) (g3 : ∀ j, j < 256 → cs[j]? = some (.int .u32 (crcN 8 j))) : cs.all (·.oneCell') = true := by
  rw [Array.all_eq_true]
  intro i hi
  have h := g3 i (by omega)
  rw [Array.getElem?_eq_getElem hi] at h
  injection h with h
  rw [h]; rfl
theorem crc_More (s : Nat) (z : Int) (hz : z = s) (hs : s < 4294967296) (A : Option Addr) (c : Nat) (l : List UInt8) (w : World) (hr : Rd eB w A c l) :
    Calls Tryz.prog 67 #[.int .u32 z, .slice A l.length c] w fun e w' => e = .returned (.int .u32 (more s l)) ∧ Ex w w' := by
  subst hz
  go_enter Tryz.func67, Tryz.ntmps67
  go_wp2_with (first | (go_at_call 107; (with_reducible refine (crc_Table _).mono ?_); rintro e w1 ⟨cs, rfl, hc1, hc2, hx1⟩) | (with_reducible refine wpList_store_row rfl 137 (.tmp 5) (.tmp 9) rfl w1.heap.size cs rfl rfl 137 Tryz.zeroCells137 (heap_alloc_new w1 _) (size140.trans (by rw [hc1])) (zero140.trans hc1.symm) (tab_all hc1 hc2) ?_))
  have hn0 := not32 s hs
  rw [hn0]
  obtain ⟨W, hW⟩ : ∃ W, W = (w1.alloc (Obj.cells Tryz.zeroCells137 137)).setRow w1.heap.size cs := ⟨_, rfl⟩
  rw [← hW]
  have hxW : Ex w W := by
    rw [hW]
    exact (hx1.alloc _).grown (row := some w1.heap.size) ⟨rfl, rfl, rfl, by simp, fun k _ hk => setRow_other _ w1.heap.size k _ (fun e => hk (by rw [e]))⟩ (fun k h => by injection h with h; have := hx1.le; omega)
  have hT : W.heap[w1.heap.size]? = some (.cells cs 137 (0, 0)) := by rw [hW]; exact setRow_heap _ _ _ _ _ _ (heap_alloc_new w1 _)
  have hcell : ∀ j, j < 256 → W.cell? ⟨w1.heap.size, j, none⟩ = some (.int .u32 (crcN 8 j)) := fun j hj => by rw [cell_of_row W _ j cs _ _ hT]; exact hc2 j hj
  clear hW hn0 hT
  have Hcell := Lib.hid hcell
  clear hcell hc2
  have hrW := hr.ex hxW
  have hl := hr.lt63
  go_loop [6, 14] (fun x i => ∃ k : Nat, i = .int .i64 k ∧ k ≤ l.length ∧ x = .int .u32 (crcF (4294967295 - s) (l.take k))) (fun _ i => (l.length - intOf i).toNat)
  case atStart => exact ⟨0, rfl, by omega, rfl⟩
  case round =>
    obtain ⟨k, rfl, hk, rfl⟩ := hrel
    have hF := crcF_lt (l.take k) (4294967295 - s) (by omega)
    have HF := Lib.hid (show l.take k = l.take k from rfl)
    by_cases hlt : k < l.length
    · obtain ⟨ad, rfl, hc⟩ := hrW.at1 rfl hlt rfl
      have hn := l[k].toNat_lt
      have ht := Lib.hid (crcF_take (4294967295 - s) l k hlt)
      obtain ⟨x, hx⟩ : ∃ x, x = crcF (4294967295 - s) (l.take k) := ⟨_, rfl⟩
      rw [← hx] at hF ht ⊢
      have Hx := Lib.hid hx; clear hx
      have hj := xor8_lt x l[k].toNat hn
      have h8 := xor8 x l[k].toNat hn
      have h32 := Lib.hid (xor32 (crcN 8 (x % 256 ^^^ l[k].toNat)) x (crcN_lt _ _ (by omega)) hF)
      obtain ⟨j, hj2⟩ : ∃ j, j = x % 256 ^^^ l[k].toNat := ⟨_, rfl⟩
      rw [← hj2] at hj h8 h32 ht
      have hcj := Hcell.out j hj
      clear hj2
      go_wp2
      go_round
      case rel => exact ⟨k + 1, rfl, hlt, vint (by rw [ht.out]; exact h32.out)⟩
      case measure => simp [intOf]; omega
    · have hf : Hid (more s l = 4294967295 - crcF (4294967295 - s) (l.take k)) := by rw [List.take_of_length_le (by omega)]; rfl
      have hn := Lib.hid (not32 _ hF)
      go_wp2
      go_ret
      exact ⟨rint (by rw [hf.out]; exact hn.out), hxW⟩
theorem crc_Sum (A : Option Addr) (c : Nat) (l : List UInt8) (w : World) (hr : Rd eB w A c l) :
    Calls Tryz.prog 33 #[.slice A l.length c] w fun e w' => e = .returned (.int .u32 (sum l)) ∧ Ex w w' := by
  go_enter Tryz.func33, Tryz.ntmps33
  go_wp2_with (go_at_call 67; (with_reducible refine (crc_More 0 0 rfl (by decide) A c l _ hr).mono ?_); rintro e w1 ⟨rfl, hx1⟩)
  go_ret
  exact ⟨rfl, hx1⟩
end Go.Proofs.YtdghbnkegahdnaaGreat.B
