/- The walks of package codec. -/
import Derived.Test.YtdghbnkegahdnaaGreatObjsW
import Derived.Test.YtdghbnkegahdnaaGreatCodec
import Derived.Deep.RegionWith
import Derived.Deep.RegionHeld3
set_option linter.unusedVariables false
set_option linter.unusedSimpArgs false
set_option maxRecDepth 100000
set_option maxHeartbeats 1000000
namespace Go.Proofs.YtdghbnkegahdnaaGreat.B
open Go Go.RowKit Go.Proofs

theorem codec_PutOp (base : Nat) (v : Value) (l : List UInt8) (o : Opn) (hf : fitsO o = true) (w : World) (ho : Own eB 5 w base v l) (hb : base ≤ w.heap.size) (hl : l.length ≤ 60000000000000) :
    Calls Tryz.prog 149 #[v, .agg #[.int .i64 o.code, .int .i64 o.a, .int .i64 o.b]] w fun e w' => ∃ v1, e = .returned (.tuple #[v1, .int .i64 0]) ∧ App eB 5 base w v w' v1 (l ++ putOp o) := by
  obtain ⟨code, x, y⟩ := o
  have hff := (fitsO_iff _).1 hf
  simp only at hff
  have hp1 := put_len code
  have hp2 := putS_len x (by omega) (by omega)
  have hl1 : l.length ≤ 70000000000000 := by omega
  have hl2 : (l ++ put code).length ≤ 70000000000000 := by rw [List.length_append]; omega
  have hl3 : (l ++ put code ++ putS x).length ≤ 70000000000000 := by rw [List.length_append, List.length_append]; omega
  have hx3 : -9223372036854775808 ≤ x := by omega
  have hx4 : x ≤ 9223372036854775807 := by omega
  have hy3 : -9223372036854775808 ≤ y := by omega
  have hy4 : y ≤ 9223372036854775807 := by omega
  have hf2 := Lib.hid hf; clear hf
  have hvb : ∀ k, v.ownBlock = some k → k < w.heap.size := fun k hk => (ho.lt k hk).2
  have hx0 := (Ex.refl w).alloc (.cells #[.int .i64 code, .int .i64 x, .int .i64 y] 67)
  have c0 : (w.alloc (.cells #[.int .i64 code, .int .i64 x, .int .i64 y] 67)).cell? ⟨w.heap.size, 0, none⟩ = some (.int .i64 code) := by simp [go_sem]
  have c1 : (w.alloc (.cells #[.int .i64 code, .int .i64 x, .int .i64 y] 67)).cell? ⟨w.heap.size, 1, none⟩ = some (.int .i64 x) := by simp [go_sem]
  have c2 : (w.alloc (.cells #[.int .i64 code, .int .i64 x, .int .i64 y] 67)).cell? ⟨w.heap.size, 2, none⟩ = some (.int .i64 y) := by simp [go_sem]
  have C0 := Lib.hid c0; clear c0
  have C1 := Lib.hid c1; clear c1
  have C2 := Lib.hid c2; clear c2
  go_enter Tryz.func149, Tryz.ntmps149
  go_wp2_with (go_at_call 92; (with_reducible refine (objs_Fits ⟨code, x, y⟩ _).mono ?_); rintro e w1 ⟨rfl, hx1⟩; rw [hf2.out])
  have hS := And.intro (hx1.cell C0.out) (And.intro (hx1.cell C1.out) (hx1.cell C2.out))
  have hxx := hx0.trans hx1
  have ho1 := ho.ex hxx
  have hle := hxx.le
  have hb1 : w.heap.size < w1.heap.size := by have := hx1.le; simp at this; omega
  have hne1 : ∀ k, v.ownBlock = some k → k ≠ w.heap.size := fun k hk => Nat.ne_of_lt (hvb k hk)
  obtain ⟨s0, s1, s2⟩ := hS
  go_region_held3 (fun W => W.cell? ⟨w.heap.size, 0, none⟩ = some (.int .i64 code) ∧ W.cell? ⟨w.heap.size, 1, none⟩ = some (.int .i64 x) ∧ W.cell? ⟨w.heap.size, 2, none⟩ = some (.int .i64 y))
    (first
      | go_keep
      | assumption)
    (first
      | (go_at_call 56; (refine (num_Put base v l code _ (ho1.ex (Ex.refl w1).drew) (Nat.le_trans hb hle) hl1).mono ?_); rintro e w2 ⟨v2, rfl, ha2⟩; have hne2 := ha2.ne hb1 hne1; have hS2 := And.intro (ha2.cell (p := ⟨w.heap.size, 0, none⟩) s0 hne1) (And.intro (ha2.cell (p := ⟨w.heap.size, 1, none⟩) s1 hne1) (ha2.cell (p := ⟨w.heap.size, 2, none⟩) s2 hne1)))
      | (go_at_call_of 104 x; (refine (num_PutSigned base v2 (l ++ put code) x _ hx3 hx4 ha2.own (Nat.le_trans hb (Nat.le_trans hle ha2.gb.size)) hl2).mono ?_); rintro e w3 ⟨v3, rfl, ha3⟩; have hne3 := ha3.ne (Nat.lt_of_lt_of_le hb1 ha2.gb.size) hne2; have hS3 := And.intro (ha3.cell (p := ⟨w.heap.size, 0, none⟩) hS2.1 hne2) (And.intro (ha3.cell (p := ⟨w.heap.size, 1, none⟩) hS2.2.1 hne2) (ha3.cell (p := ⟨w.heap.size, 2, none⟩) hS2.2.2 hne2)))
      | (go_at_call_of 104 y; (refine (num_PutSigned base v3 (l ++ put code ++ putS x) y _ hy3 hy4 ha3.own (Nat.le_trans hb (Nat.le_trans hle (Nat.le_trans ha2.gb.size ha3.gb.size))) hl3).mono ?_); rintro e w4 ⟨v4, rfl, ha4⟩; have hS4 := And.intro (ha4.cell (p := ⟨w.heap.size, 0, none⟩) hS3.1 hne3) (And.intro (ha4.cell (p := ⟨w.heap.size, 1, none⟩) hS3.2.1 hne3) (ha4.cell (p := ⟨w.heap.size, 2, none⟩) hS3.2.2 hne3))))
  go_wp2_with fail
  go_ret2
  refine ⟨v4, rfl, ?_⟩
  have hall := (ha2.trans ha3).trans ha4
  have e : l ++ putOp ⟨code, x, y⟩ = l ++ put code ++ putS x ++ putS y := by simp [putOp]
  rw [e]
  exact ⟨hall.own, gb_trans (hxx.gb _) (gb_trans (gb_drew (gb_refl w1 v.ownBlock)) hall.gb (fun i hi => .inl hi)) (fun i hi => .inl hi), by
    rcases hall.at_ with h | ⟨b, h1, h2⟩
    · exact .inl h
    · exact .inr ⟨b, h1, Nat.le_trans hle h2⟩⟩

theorem codec_seal (s : St) (A : Option Addr) (c : Nat) (n : Nat) (h1 : -9000000000000000000 ≤ s.to) (h2 : s.to ≤ 9000000000000000000) (w : World) :
    Calls Tryz.prog 140 #[.agg #[.int .i64 s.kind, .slice A n c, .bool s.sealed, .int .i64 s.to]] w fun e w' => e = .returned (.int .i64 (sealN s)) ∧ Ex w w' := by
  obtain ⟨kind, l, sealed, tt⟩ := s
  simp only at h1 h2 ⊢
  have hx0 := (Ex.refl w).alloc (.cells #[.int .i64 kind, .slice A n c, .bool sealed, .int .i64 tt] 36)
  cases sealed
  · have hs : Hid (sealN ⟨kind, l, false, tt⟩ = 0) := rfl
    go_enter Tryz.func140, Tryz.ntmps140
    go_wp2_with fail
    go_ret
    exact ⟨rint hs.out.symm, hx0⟩
  · have hs : Hid (sealN ⟨kind, l, true, tt⟩ = tt + 1) := rfl
    go_enter Tryz.func140, Tryz.ntmps140
    go_wp2_with fail
    go_ret
    exact ⟨rint hs.out.symm, hx0⟩
theorem codec_EncodeState (s : St) (A : Option Addr) (c : Nat) (w : World) (hr : Rd eI w A c s.l) (hl : s.l.length ≤ 4000000000000) :
    Calls Tryz.prog 103 #[.agg #[.int .i64 s.kind, .slice A s.l.length c, .bool s.sealed, .int .i64 s.to]] w fun e w' => ∃ v, e = .returned (.tuple #[v, .int .i64 (if mayS s = true then 0 else 1)]) ∧ Own eB 5 w' w.heap.size v (if mayS s = true then encS s else []) ∧ Ex w w' := by
  cases hm : mayS s with
  | false =>
    have Hm := Lib.hid hm; clear hm
    obtain ⟨kind, l, sealed, tt⟩ := s
    simp only at hr hl ⊢
    have hx0 := (Ex.refl w).alloc (.cells #[.int .i64 kind, .slice A l.length c, .bool sealed, .int .i64 tt] 36)
    go_enter Tryz.func103, Tryz.ntmps103
    go_wp2_with (go_at_call 70; (with_reducible refine (objs_May ⟨kind, l, sealed, tt⟩ A c _ (hr.ex hx0) hl).mono ?_); rintro e w1 ⟨rfl, hx1⟩; rw [Hm.out])
    go_ret2
    exact ⟨_, rfl, Own.nil _ _ _ _, hx0.trans hx1⟩
  | true =>
    have hall := mayS_all hm
    have helen := encS_len s hm
    have hp3 := put_len (sealN s)
    have Hm := Lib.hid hm; clear hm
    obtain ⟨kind, l, sealed, tt⟩ := s
    simp only at hr hl hall
    simp only
    obtain ⟨ha, hl128, hk0, hk5, ht0, ht2, _⟩ := hall
    have Ha := Lib.hid ha; clear ha
    have hx0 := (Ex.refl w).alloc (.cells #[.int .i64 kind, .slice A l.length c, .bool sealed, .int .i64 tt] 36)
    have c0 : (w.alloc (.cells #[.int .i64 kind, .slice A l.length c, .bool sealed, .int .i64 tt] 36)).cell? ⟨w.heap.size, 0, none⟩ = some (.int .i64 kind) := by simp [go_sem]
    have c1 : (w.alloc (.cells #[.int .i64 kind, .slice A l.length c, .bool sealed, .int .i64 tt] 36)).cell? ⟨w.heap.size, 1, none⟩ = some (.slice A l.length c) := by simp [go_sem]
    have c2 : (w.alloc (.cells #[.int .i64 kind, .slice A l.length c, .bool sealed, .int .i64 tt] 36)).cell? ⟨w.heap.size, 2, none⟩ = some (.bool sealed) := by simp [go_sem]
    have c3 : (w.alloc (.cells #[.int .i64 kind, .slice A l.length c, .bool sealed, .int .i64 tt] 36)).cell? ⟨w.heap.size, 3, none⟩ = some (.int .i64 tt) := by simp [go_sem]
    have hC := Lib.hid (And.intro c0 (And.intro c1 (And.intro c2 c3)))
    clear c0 c1 c2 c3
    have hp1 := put_len kind
    have hp4 := put_len (l.length : Int)
    have ho0 := Own.nil eB 5 w w.heap.size
    have hnn : ∀ k, (Value.slice none 0 0).ownBlock = some k → k ≠ w.heap.size := fun k hk => by cases hk
    go_enter Tryz.func103, Tryz.ntmps103
    go_wp2_with (go_at_call 70; (with_reducible refine (objs_May ⟨kind, l, sealed, tt⟩ A c _ (hr.ex hx0) hl).mono ?_); rintro e w1 ⟨rfl, hx1⟩; rw [Hm.out])
    obtain ⟨s0, s1, s2, s3⟩ := And.intro (hx1.cell hC.out.1) (And.intro (hx1.cell hC.out.2.1) (And.intro (hx1.cell hC.out.2.2.1) (hx1.cell hC.out.2.2.2)))
    have hxx := hx0.trans hx1
    have hle := hxx.le
    have hb1 : w.heap.size < w1.heap.size := by have := hx1.le; simp at this; omega
    obtain ⟨z, hz⟩ : ∃ z, z = sealN ⟨kind, l, sealed, tt⟩ := ⟨_, rfl⟩
    have Hz := Lib.hid hz
    rw [← hz] at hp3
    clear hz
    have hled : w.heap.size ≤ w1.drew.heap.size := hle
    have g1 : (put kind).length ≤ 70000000000000 := by omega
    have g2 : (put kind ++ put z).length ≤ 70000000000000 := by rw [List.length_append]; omega
    go_region_held3 (fun W => W.cell? ⟨w.heap.size, 0, none⟩ = some (.int .i64 kind) ∧ W.cell? ⟨w.heap.size, 1, none⟩ = some (.slice A l.length c) ∧ W.cell? ⟨w.heap.size, 2, none⟩ = some (.bool sealed) ∧ W.cell? ⟨w.heap.size, 3, none⟩ = some (.int .i64 tt))
      (first
        | go_keep
        | assumption)
      (first
        | (go_at_call_of 56 kind; (refine (num_Put w.heap.size _ [] kind _ (Own.nil _ _ _ _) hled (by decide)).mono ?_); rintro e w2 ⟨v2, rfl, ha2⟩; have hx2 : Ex w1 w2 := ha2.ex (Ex.refl w1).drew (fun k hk => by cases hk); have hne2 := ha2.ne hb1 hnn; have hS2 := And.intro (hx2.cell s0) (And.intro (hx2.cell s1) (And.intro (hx2.cell s2) (hx2.cell s3))); rw [List.nil_append] at ha2)
        | (go_at_call 140; (refine (codec_seal ⟨kind, l, sealed, tt⟩ A c l.length (by show _ ≤ tt; omega) (by show tt ≤ _; omega) _).mono ?_); rintro e w3 ⟨rfl, hx3⟩; rw [← Hz.out]; have ho3 := ha2.own.ex hx3; have hS3 := And.intro (hx3.cell hS2.1) (And.intro (hx3.cell hS2.2.1) (And.intro (hx3.cell hS2.2.2.1) (hx3.cell hS2.2.2.2))))
        | (go_at_call_of 56 z; (refine (num_Put w.heap.size v2 (put kind) z _ ho3 (Nat.le_trans hle (Nat.le_trans hx2.le hx3.le)) g1).mono ?_); rintro e w4 ⟨v4, rfl, ha4⟩; have hne4 := ha4.ne (Nat.lt_of_lt_of_le hb1 (Nat.le_trans hx2.le hx3.le)) hne2; have hS4 := And.intro (ha4.cell (p := ⟨w.heap.size, 0, none⟩) hS3.1 hne2) (And.intro (ha4.cell (p := ⟨w.heap.size, 1, none⟩) hS3.2.1 hne2) (And.intro (ha4.cell (p := ⟨w.heap.size, 2, none⟩) hS3.2.2.1 hne2) (ha4.cell (p := ⟨w.heap.size, 3, none⟩) hS3.2.2.2 hne2))))
        | (go_at_call_of 56 l; (refine (num_Put w.heap.size v4 (put kind ++ put z) l.length _ ha4.own (Nat.le_trans hle (Nat.le_trans hx2.le (Nat.le_trans hx3.le ha4.gb.size))) g2).mono ?_); rintro e w5 ⟨v5, rfl, ha5⟩; have hS5 := And.intro (ha5.cell (p := ⟨w.heap.size, 0, none⟩) hS4.1 hne4) (And.intro (ha5.cell (p := ⟨w.heap.size, 1, none⟩) hS4.2.1 hne4) (And.intro (ha5.cell (p := ⟨w.heap.size, 2, none⟩) hS4.2.2.1 hne4) (ha5.cell (p := ⟨w.heap.size, 3, none⟩) hS4.2.2.2 hne4)))))
    go_wp2_with fail
    have hx5 : Ex w w5 := ha5.ex (ha4.ex (hxx.trans (hx2.trans hx3)) (fun k hk => (ho3.lt k hk).1)) (fun k hk => (ha4.own.lt k hk).1)
    have ho5 := ha5.own
    clear ha5 ha4 ho3 ha2 hS5 hS4 hS3 hS2 s0 s1 s2 s3
    obtain ⟨hd, hhd⟩ : ∃ hd, hd = put kind ++ put z ++ put (l.length : Int) := ⟨_, rfl⟩
    rw [← hhd] at ho5
    have hhl : hd.length ≤ 30 := by rw [hhd]; simp only [List.length_append]; omega
    have Hhd := Lib.hid hhd; clear hhd
    go_loopw [4, 23] (fun v i wr => ∃ k : Nat, i = .int .i64 k ∧ k ≤ l.length ∧ Ex w wr ∧ Own eB 5 wr w.heap.size v (hd ++ numsB (l.take k))) (fun _ i _ => (l.length - intOf i).toNat)
    case atStart => exact ⟨0, rfl, by omega, hx5, by simpa [numsB] using ho5⟩
    case round =>
      obtain ⟨k, rfl, hk, hx, ho⟩ := hrel
      by_cases hlt : k < l.length
      · obtain ⟨ad, rfl, hc⟩ := (hr.ex hx).at1 rfl hlt rfl
        have hn1 : -9223372036854775808 ≤ l[k] := by have := Ha.out l[k] (List.getElem_mem hlt); omega
        have hn2 : l[k] ≤ 9223372036854775807 := by have := Ha.out l[k] (List.getElem_mem hlt); omega
        have hN1 := Lib.hid hn1; clear hn1
        have hN2 := Lib.hid hn2; clear hn2
        have hlb : (hd ++ numsB (l.take k)).length ≤ 70000000000000 := by
          have := numsB_len (l.take k) (fun n hn => Ha.out n (List.mem_of_mem_take hn))
          rw [List.length_append]; rw [List.length_take] at this; omega
        have ht := Lib.hid (numsB_take l k hlt)
        have hxw := hx.le
        go_wp2_with (go_at_call 104; (refine (num_PutSigned w.heap.size _ (hd ++ numsB (l.take k)) l[k] _ hN1.out hN2.out ho hxw hlb).mono ?_); rintro e w6 ⟨v6, rfl, ha6⟩)
        go_roundw
        case rel => exact ⟨k + 1, rfl, hlt, ha6.ex hx (fun j hj => (ho.lt j hj).1), by rw [ht.out, ← List.append_assoc]; exact ha6.own⟩
        case measure => simp [intOf]; omega
      · have hf : Hid (hd ++ numsB (l.take k) = encS ⟨kind, l, sealed, tt⟩) := by
          show _ = _
          rw [List.take_of_length_le (by omega), Hhd.out, Hz.out]; rfl
        go_wp2_with fail
        go_ret2
        exact ⟨_, rfl, by rw [← hf.out]; exact ho, hx⟩

/-- A reader: the rest of the bytes lies in block bb, whether all was there in block fb. -/
def RdrAt (w : World) (bb fb : Nat) (l : List UInt8) (f : Bool) : Prop := bb ≠ fb ∧ ∃ A c, w.cell? ⟨bb, 0, none⟩ = some (.slice A l.length c) ∧ w.frozen? ⟨bb, 0, none⟩ = false ∧ Rd eB w A c l ∧ (∀ a, A = some a → 0 < l.length → a.block < bb ∧ a.block < fb) ∧ w.cell? ⟨fb, 0, none⟩ = some (.bool f) ∧ w.frozen? ⟨fb, 0, none⟩ = false
theorem RdrAt.ex {w w' : World} {bb fb : Nat} {l : List UInt8} {f : Bool} (h : RdrAt w bb fb l f) (hx : Ex w w') : RdrAt w' bb fb l f := by
  obtain ⟨h0, A, c, h1, h2, h3, h4, h5, h6⟩ := h
  exact ⟨h0, A, c, hx.cell h1, (hx.frozen (World.block_lt_of_cell? w _ h1)).trans h2, h3.ex hx, h4, hx.cell h5, (hx.frozen (World.block_lt_of_cell? w _ h5)).trans h6⟩
/-- What writes blocks bb and fb alone. -/
def Two (bb fb : Nat) (w w' : World) : Prop := ∃ wm, w.grownBy wm (some fb) ∧ wm.grownBy w' (some bb)
theorem gb_set (w : World) (b : Nat) (v : Value) : w.grownBy (w.setCell ⟨b, 0, none⟩ v) (some b) :=
  ⟨rfl, rfl, rfl, by simp, fun k _ hk => Below.heap_setCell _ _ _ k (fun e => hk (by rw [e]))⟩
theorem Two.set (w : World) (bb fb : Nat) (v u : Value) : Two bb fb w ((w.setCell ⟨fb, 0, none⟩ v).setCell ⟨bb, 0, none⟩ u) := ⟨_, gb_set w fb v, gb_set _ bb u⟩
theorem Two.ex {bb fb : Nat} {w0 w w' : World} (h : Two bb fb w w') (hx : Ex w0 w) (h1 : w0.heap.size ≤ bb) (h2 : w0.heap.size ≤ fb) : Ex w0 w' := by
  obtain ⟨wm, g1, g2⟩ := h
  exact (hx.grown g1 (fun k hk => by cases hk; exact h2)).grown g2 (fun k hk => by cases hk; exact h1)
theorem Two.both {bb fb : Nat} {w w' : World} (h : Two bb fb w w') {p : Addr} {v : Value} (hc : w.cell? p = some v ∧ w.frozen? p = false) (h1 : p.block ≠ bb) (h2 : p.block ≠ fb) : w'.cell? p = some v ∧ w'.frozen? p = false := by
  obtain ⟨wm, g1, g2⟩ := h
  have c1 : wm.cell? p = some v := g1.cell hc.1 (fun e => h2 (by cases e; rfl))
  have c2 : w'.cell? p = some v := g2.cell c1 (fun e => h1 (by cases e; rfl))
  have f1 : wm.frozen? p = false := (g1.frozen_far p (World.block_lt_of_cell? w _ hc.1) (fun e => h2 (by cases e; rfl))).trans hc.2
  exact ⟨c2, (g2.frozen_far p (World.block_lt_of_cell? wm _ c1) (fun e => h1 (by cases e; rfl))).trans f1⟩
theorem Two.own {α : Type} {E : Enc α} {e : TypeId} {base : Nat} {v : Value} {xs : List α} {bb fb : Nat} {w w' : World} (h : Two bb fb w w') (ho : Own E e w base v xs) (h1 : bb < base) (h2 : fb < base) : Own E e w' base v xs := by
  obtain ⟨wm, g1, g2⟩ := h
  have o1 : Own E e wm base v xs := ho.gb g1 (.inr (fun e => by have := (ho.lt fb e).1; omega))
  exact o1.gb g2 (.inr (fun e => by have := (o1.lt bb e).1; omega))
theorem Two.size {bb fb : Nat} {w w' : World} (h : Two bb fb w w') : w.heap.size ≤ w'.heap.size := by
  obtain ⟨wm, g1, g2⟩ := h
  exact Nat.le_trans g1.size g2.size
theorem RdrAt.gb {w w' : World} {bb fb : Nat} {l : List UInt8} {f : Bool} (h : RdrAt w bb fb l f) {row : Option Nat} (hg : w.grownBy w' row) (hr : ∀ k, row = some k → bb < k ∧ fb < k) : RdrAt w' bb fb l f := by
  obtain ⟨h0, A, c, h1, h2, h3, h4, h5, h6⟩ := h
  have nb : row ≠ some bb := fun e => by have := (hr bb e).1; omega
  have nf : row ≠ some fb := fun e => by have := (hr fb e).2; omega
  refine ⟨h0, A, c, hg.cell h1 (fun e => nb e.symm), (hg.frozen_far _ (World.block_lt_of_cell? w _ h1) (fun e => nb e.symm)).trans h2, ?_, h4, hg.cell h5 (fun e => nf e.symm), (hg.frozen_far _ (World.block_lt_of_cell? w _ h5) (fun e => nf e.symm)).trans h6⟩
  rcases Nat.eq_zero_or_pos l.length with hl | hl
  · obtain rfl : l = [] := List.eq_nil_of_length_eq_zero hl
    exact Rd.nil _ _ _ _
  · exact h3.grown hg (fun a ha e => by have h7 := (h4 a ha hl).1; have h8 := (hr _ e).1; omega)
theorem RdrAt.step {w : World} {bb fb : Nat} {A A' : Option Addr} {c c' : Nat} {l y : List UInt8} {f : Bool} (hne : bb ≠ fb) (h1 : w.cell? ⟨bb, 0, none⟩ = some (.slice A l.length c)) (h2 : w.frozen? ⟨bb, 0, none⟩ = false)
    (h5 : w.cell? ⟨fb, 0, none⟩ = some (.bool f)) (h6 : w.frozen? ⟨fb, 0, none⟩ = false) (hr : Rd eB w A' c' y) (hb : ∀ a, A' = some a → 0 < y.length → a.block < bb ∧ a.block < fb) (f' : Bool) :
    RdrAt ((w.setCell ⟨fb, 0, none⟩ (.bool f')).setCell ⟨bb, 0, none⟩ (.slice A' y.length c')) bb fb y f' := by
  have e1 : (⟨fb, 0, none⟩ : Addr) ≠ ⟨bb, 0, none⟩ := fun e => hne (by cases e; rfl)
  have e2 : (⟨bb, 0, none⟩ : Addr) ≠ ⟨fb, 0, none⟩ := fun e => hne (by cases e; rfl)
  refine ⟨hne, A', c', ?_, by simpa using h2, ?_, hb, ?_, by simpa using h6⟩
  · exact World.cell?_setCell_same _ _ _ ((World.cell?_setCell_other w ⟨fb, 0, none⟩ ⟨bb, 0, none⟩ (.bool f') e1).trans h1)
  · refine ⟨hr.1, hr.2.1, fun hp => ?_⟩
    obtain ⟨ad, e, hlt, hc⟩ := hr.2.2 hp
    obtain ⟨b1, b2⟩ := hb ad e hp
    refine ⟨ad, e, by simpa [World.setCell] using hlt, fun j x hj i u hu => ?_⟩
    have hblk : (ad.add (j * eB.sz + i)).block = ad.block := by unfold Addr.add; split <;> rfl
    rw [World.cell?_setCell_other (h := fun e => Nat.ne_of_lt b1 (by rw [← hblk, ← e])), World.cell?_setCell_other (h := fun e => Nat.ne_of_lt b2 (by rw [← hblk, ← e]))]
    exact hc j x hj i u hu
  · rw [World.cell?_setCell_other (h := e2)]
    exact World.cell?_setCell_same _ _ _ h5
theorem codec_reader1 (rd : List UInt8 → Int × Nat) (g : Nat) (hg : Fv Tryz.prog g) (hrd : ∀ (A : Option Addr) (c : Nat) (l : List UInt8) (w : World), Rd eB w A c l → Calls Tryz.prog g #[.slice A l.length c] w fun e w' => e = .returned (.tuple #[.int .i64 (rd l).1, .int .i64 (rd l).2]) ∧ w = w')
    (hle : ∀ l, (rd l).2 ≤ l.length) (bb fb : Nat) (l : List UInt8) (f : Bool) (w : World) (h : RdrAt w bb fb l f) :
    Calls Tryz.prog 142 #[.func (.func g) #[] #[], .pointer (some ⟨bb, 0, none⟩), .pointer (some ⟨fb, 0, none⟩)] w fun e w' =>
      e = .returned (.int .i64 (rd l).1) ∧ RdrAt w' bb fb (l.drop (rd l).2) (f && decide (0 < (rd l).2)) ∧ Two bb fb w w' := by
  obtain ⟨hne, A, c, h1, h2, h3, h4, h5, h6⟩ := h
  have Hrd := Lib.hid hrd; clear hrd
  have hle1 := hle l
  obtain ⟨n, k, hnk⟩ : ∃ n k, rd l = (n, k) := ⟨_, _, rfl⟩
  rw [hnk] at hle1 ⊢
  have Hnk := Lib.hid hnk; clear hnk
  simp only at hle1 ⊢
  obtain ⟨A', c', y, hy, run1, r1, hbl⟩ := cut_fromB (P := Tryz.prog) w 22 5 Tryz.underlying22 sizeB h3 (k : Int) (by omega) (by omega)
  have hyd : Hid (y = l.drop k) := by have h := hy.out; rw [Int.toNat_natCast] at h; exact h
  have hb4 : ∀ a, A' = some a → 0 < y.length → a.block < bb ∧ a.block < fb := fun a' ha' hp => by
    obtain ⟨a, ha, hab⟩ := hbl a' ha'
    rw [← hab]
    exact h4 a ha (by rw [hyd.out, List.length_drop] at hp; omega)
  have Hb4 := Lib.hid hb4; clear hb4 hbl h4 hy
  have Hle := Lib.hid hle; clear hle
  have hne' : ¬ bb = fb := hne
  have hne'' : ¬ fb = bb := fun e => hne e.symm
  cases f <;> cases hk : decide (0 < k)
  all_goals
    have hk2 : decide ((0 : Int) < (k : Int)) = _ := (decide_eq_decide.2 (by omega)).trans hk
    have Hk := Lib.hid hk; clear hk
    go_enter Tryz.func142, Tryz.ntmps142
    go_wp2_with ((with_reducible refine gate_val (x := .tmp 8) (ps := #[.tmp 9]) rfl ?_); refine callv hg #[] #[.slice A l.length c] rfl (.tmp 8) #[.tmp 9] _ rfl rfl rfl ?_; refine (Hrd.out A c l _ h3).mono ?_; rintro e w1 ⟨rfl, rfl⟩; refine ⟨_, rfl, ?_⟩; rw [Hnk.out])
    go_ret
    refine ⟨rfl, by
      rw [← hyd.out]
      first
        | exact RdrAt.step hne h1 h2 h5 h6 r1 Hb4.out _
        | (rw [Hk.out]; exact RdrAt.step hne h1 h2 h5 h6 r1 Hb4.out _), Two.set _ _ _ _ _⟩

theorem codec_reader2 (bb fb : Nat) (l : List UInt8) (f : Bool) (w : World) (h : RdrAt w bb fb l f) :
    Calls Tryz.prog 143 #[.pointer (some ⟨fb, 0, none⟩)] w fun e w' => e = .returned (.bool f) ∧ w = w' := by
  obtain ⟨hne, A, c, h1, h2, h3, h4, h5, h6⟩ := h
  go_enter Tryz.func143, Tryz.ntmps143
  go_wp2_with fail
  go_ret
  exact ⟨rfl, rfl⟩
theorem codec_reader3 (bb fb : Nat) (l : List UInt8) (f : Bool) (w : World) (h : RdrAt w bb fb l f) :
    Calls Tryz.prog 144 #[.pointer (some ⟨bb, 0, none⟩)] w fun e w' => e = .returned (.int .i64 l.length) ∧ w = w' := by
  obtain ⟨hne, A, c, h1, h2, h3, h4, h5, h6⟩ := h
  go_enter Tryz.func144, Tryz.ntmps144
  go_wp2_with fail
  go_ret
  exact ⟨rfl, rfl⟩
theorem codec_reader (A : Option Addr) (c : Nat) (l : List UInt8) (w : World) (n : Nat) (hn : w.heap.size = n) (hr : Rd eB w A c l) :
    Calls Tryz.prog 108 #[.slice A l.length c] w fun e w' =>
      e = .returned (.tuple #[.func (.func 142) #[] #[.pointer (some ⟨n, 0, none⟩), .pointer (some ⟨n + 1, 0, none⟩)], .func (.func 143) #[] #[.pointer (some ⟨n + 1, 0, none⟩)], .func (.func 144) #[] #[.pointer (some ⟨n, 0, none⟩)]]) ∧
      RdrAt w' n (n + 1) l true ∧ Ex w w' := by
  subst hn
  have hR : RdrAt ((w.alloc (.cells #[.slice A l.length c] 22)).alloc (.cells #[.bool true] 4)) w.heap.size (w.heap.size + 1) l true := by
    refine ⟨by omega, A, c, by simp [go_sem], by simp [go_sem], hr.ex (((Ex.refl w).alloc _).alloc _), fun a ha hp => ?_, by simp [go_sem], by simp [go_sem]⟩
    obtain ⟨ad, e, hlt, _⟩ := hr.2.2 hp
    rw [e] at ha; cases ha; omega
  have HR := Lib.hid hR; clear hR
  go_enter Tryz.func108, Tryz.ntmps108
  go_wp2_with fail
  go_ret3
  exact ⟨rfl, HR.out, ((Ex.refl w).alloc _).alloc _⟩
def getI (l : List UInt8) : Int × Nat := ((get l).1, (get l).2)
theorem fv_Get : Fv Tryz.prog 64 := ⟨_, Tryz.func64, by kernel_rfl, rfl⟩
theorem fv_GetSigned : Fv Tryz.prog 109 := ⟨_, Tryz.func109, by kernel_rfl, rfl⟩
theorem rd_Get (bb fb : Nat) (l : List UInt8) (f : Bool) (w : World) (h : RdrAt w bb fb l f) :
    Calls Tryz.prog 142 #[.func (.func 64) #[] #[], .pointer (some ⟨bb, 0, none⟩), .pointer (some ⟨fb, 0, none⟩)] w fun e w' =>
      e = .returned (.int .i64 (get l).1) ∧ RdrAt w' bb fb (l.drop (get l).2) (f && decide (0 < (get l).2)) ∧ Two bb fb w w' :=
  codec_reader1 getI _ fv_Get (fun A c l w hr => num_Get A c l w hr) get_le bb fb l f w h
theorem rd_GetSigned (bb fb : Nat) (l : List UInt8) (f : Bool) (w : World) (h : RdrAt w bb fb l f) :
    Calls Tryz.prog 142 #[.func (.func 109) #[] #[], .pointer (some ⟨bb, 0, none⟩), .pointer (some ⟨fb, 0, none⟩)] w fun e w' =>
      e = .returned (.int .i64 (getS l).1) ∧ RdrAt w' bb fb (l.drop (getS l).2) (f && decide (0 < (getS l).2)) ∧ Two bb fb w w' :=
  codec_reader1 getS _ fv_GetSigned (fun A c l w hr => num_GetSigned A c l w hr) getS_le bb fb l f w h

theorem codec_GetOp (A : Option Addr) (c : Nat) (l : List UInt8) (w : World) (hr : Rd eB w A c l) (hl : l.length ≤ 70000000000000) :
    Calls Tryz.prog 162 #[.slice A l.length c] w fun e w' => e = .returned (.tuple #[.agg #[.int .i64 (getOp l).1.code, .int .i64 (getOp l).1.a, .int .i64 (getOp l).1.b], .int .i64 (getOp l).2]) ∧ Ex w w' := by
  have hr0 := hr.ex ((Ex.refl w).alloc (.cells #[.int .i64 0, .int .i64 0, .int .i64 0] 67))
  obtain ⟨i, hi⟩ : ∃ i, i = (get l).2 := ⟨_, rfl⟩
  obtain ⟨x, hx⟩ : ∃ x, x = (get l).1 := ⟨_, rfl⟩
  obtain ⟨l1, hl1⟩ : ∃ l1, l1 = l.drop i := ⟨_, rfl⟩
  obtain ⟨j, hj⟩ : ∃ j, j = (getS l1).2 := ⟨_, rfl⟩
  obtain ⟨y, hy⟩ : ∃ y, y = (getS l1).1 := ⟨_, rfl⟩
  obtain ⟨l2, hl2⟩ : ∃ l2, l2 = l1.drop j := ⟨_, rfl⟩
  obtain ⟨k, hk⟩ : ∃ k, k = (getS l2).2 := ⟨_, rfl⟩
  obtain ⟨z, hz⟩ : ∃ z, z = (getS l2).1 := ⟨_, rfl⟩
  have i1 := get_le l
  have i2 := getS_le l1
  have i3 := getS_le l2
  rw [← hi] at i1; rw [← hj] at i2; rw [← hk] at i3
  have n1 : l1.length = l.length - i := by rw [hl1, List.length_drop]
  have n2 : l2.length = l1.length - j := by rw [hl2, List.length_drop]
  have hspec : getOp l = if i = 0 ∨ j = 0 ∨ k = 0 ∨ fitsO ⟨x, y, z⟩ = false then (opZ, 0) else (⟨x, y, z⟩, i + j + k) := by
    unfold getOp getOp3
    simp only [← hi, ← hl1, ← hj, ← hl2, ← hk, ← hx, ← hy, ← hz]
  obtain ⟨l3, hl3⟩ : ∃ l3, l3 = l2.drop k := ⟨_, rfl⟩
  have hn3 : Hid (l3.length = l.length - (i + j + k) ∧ i + j + k ≤ l.length) := by rw [hl3, List.length_drop]; exact ⟨by omega, by omega⟩
  have hb3 : l3.length ≤ 70000000000000 := by have := hn3.out; omega
  have HL3 := Lib.hid hl3; clear hl3
  clear i1 i2 i3 n1 n2
  have HI := Lib.hid hi; have HX := Lib.hid hx; have HL1 := Lib.hid hl1; have HJ := Lib.hid hj; have HY := Lib.hid hy; have HL2 := Lib.hid hl2; have HK := Lib.hid hk; have HZ := Lib.hid hz
  clear hi hx hl1 hj hy hl2 hk hz
  by_cases hbad : i = 0 ∨ j = 0 ∨ k = 0
  · have hs : Hid (getOp l = (opZ, 0)) := by rw [hspec, if_pos (by rcases hbad with h | h | h; exact .inl h; exact .inr (.inl h); exact .inr (.inr (.inl h)))]; rfl
    have hfl : Hid ((((true && decide (0 < i)) && decide (0 < j)) && decide (0 < k)) = false) := by
      show _ = _
      rcases hbad with h | h | h <;> subst h <;> simp
    clear hspec hbad
    go_enter Tryz.func162, Tryz.ntmps162
    go_wp2_with (go_at_call 108; (refine (codec_reader A c l _ (w.heap.size + 1) (by simp) hr0).mono ?_); rintro e w1 ⟨rfl, hR1, hx1⟩)
    refine (rd_Get _ _ l true _ hR1).mono ?_
    rintro e w2 ⟨rfl, hR2, hx2⟩
    rw [← HI.out, ← HL1.out] at hR2
    rw [← HX.out]
    go_wp2_with fail
    refine (rd_GetSigned _ _ l1 _ _ hR2).mono ?_
    rintro e w3 ⟨rfl, hR3, hx3⟩
    rw [← HJ.out, ← HL2.out] at hR3
    rw [← HY.out]
    go_wp2_with fail
    refine (rd_GetSigned _ _ l2 _ _ hR3).mono ?_
    rintro e w4 ⟨rfl, hR4, hx4⟩
    rw [← HK.out, hfl.out, ← HL3.out] at hR4
    rw [← HZ.out]
    have hxr : Ex (w.alloc (.cells #[.int .i64 0, .int .i64 0, .int .i64 0] 67)) w4 := hx4.ex (hx3.ex (hx2.ex hx1 (by simp) (by simp)) (by simp) (by simp)) (by simp) (by simp)
    have hx41 : Ex w w4 := ((Ex.refl w).alloc _).trans hxr
    obtain ⟨q0, f0⟩ := hxr.both (new_cell w _ _ 0 rfl)
    obtain ⟨q1, f1⟩ := hxr.both (new_cell w _ _ 1 rfl)
    obtain ⟨q2, f2⟩ := hxr.both (new_cell w _ _ 2 rfl)
    have hw4 : w.heap.size < w4.heap.size := World.block_lt_of_cell? w4 _ q0
    go_wp2_with (go_at_call 143; (refine (codec_reader2 _ _ _ _ _ (hR4.ex ((Ex.refl w4).alloc _))).mono ?_); rintro e w5 ⟨rfl, rfl⟩)
    refine bodyPost_ret (v := .tuple #[.agg #[.int .i64 0, .int .i64 0, .int .i64 0], .int .i64 0]) (by simp [results, Tryz.results162, go_sem, q0, q1, q2, hw4]) rfl ⟨by rw [hs.out]; rfl, ?_⟩
    repeat' first
      | exact hx41
      | refine Ex.alloc ?_ _
      | refine Ex.set ?_ (Nat.le_refl _) _
  · have hfl : Hid ((((true && decide (0 < i)) && decide (0 < j)) && decide (0 < k)) = true) := by
      show _ = _
      rw [decide_eq_true (show 0 < i by omega), decide_eq_true (show 0 < j by omega), decide_eq_true (show 0 < k by omega)]; rfl
    cases hfit : fitsO ⟨x, y, z⟩ with
    | false =>
      have hs : Hid (getOp l = (opZ, 0)) := by rw [hspec, if_pos (.inr (.inr (.inr hfit)))]; rfl
      have Hfit := Lib.hid hfit
      clear hspec hbad hfit
      go_enter Tryz.func162, Tryz.ntmps162
      go_wp2_with (go_at_call 108; (refine (codec_reader A c l _ (w.heap.size + 1) (by simp) hr0).mono ?_); rintro e w1 ⟨rfl, hR1, hx1⟩)
      refine (rd_Get _ _ l true _ hR1).mono ?_
      rintro e w2 ⟨rfl, hR2, hx2⟩
      rw [← HI.out, ← HL1.out] at hR2
      rw [← HX.out]
      go_wp2_with fail
      refine (rd_GetSigned _ _ l1 _ _ hR2).mono ?_
      rintro e w3 ⟨rfl, hR3, hx3⟩
      rw [← HJ.out, ← HL2.out] at hR3
      rw [← HY.out]
      go_wp2_with fail
      refine (rd_GetSigned _ _ l2 _ _ hR3).mono ?_
      rintro e w4 ⟨rfl, hR4, hx4⟩
      rw [← HK.out, hfl.out, ← HL3.out] at hR4
      rw [← HZ.out]
      have hxr : Ex (w.alloc (.cells #[.int .i64 0, .int .i64 0, .int .i64 0] 67)) w4 := hx4.ex (hx3.ex (hx2.ex hx1 (by simp) (by simp)) (by simp) (by simp)) (by simp) (by simp)
      have hx41 : Ex w w4 := ((Ex.refl w).alloc _).trans hxr
      obtain ⟨q0, f0⟩ := hxr.both (new_cell w _ _ 0 rfl)
      obtain ⟨q1, f1⟩ := hxr.both (new_cell w _ _ 1 rfl)
      obtain ⟨q2, f2⟩ := hxr.both (new_cell w _ _ 2 rfl)
      have hw4 : w.heap.size < w4.heap.size := World.block_lt_of_cell? w4 _ q0
      go_wp2_with (first | (go_at_call 143; (refine (codec_reader2 _ _ _ _ _ (hR4.ex ((Ex.refl w4).alloc _))).mono ?_); rintro e w5 ⟨rfl, rfl⟩) | (go_at_call 92; (refine (objs_Fits ⟨x, y, z⟩ _).mono ?_); rintro e w5 ⟨rfl, hx5⟩; rw [Hfit.out]; (obtain ⟨q0, f0⟩ := (((Ex.refl w4).alloc _).trans hx5).both ⟨q0, f0⟩); (obtain ⟨q1, f1⟩ := (((Ex.refl w4).alloc _).trans hx5).both ⟨q1, f1⟩); (obtain ⟨q2, f2⟩ := (((Ex.refl w4).alloc _).trans hx5).both ⟨q2, f2⟩)))
      have hw5 : w.heap.size < w5.heap.size := World.block_lt_of_cell? w5 _ q0
      refine bodyPost_ret (v := .tuple #[.agg #[.int .i64 0, .int .i64 0, .int .i64 0], .int .i64 0]) (by simp [results, Tryz.results162, go_sem, q0, q1, q2, hw5]) rfl ⟨by rw [hs.out]; rfl, ?_⟩
      repeat' first
        | exact (hx41.alloc _).trans hx5
        | refine Ex.alloc ?_ _
        | refine Ex.set ?_ (Nat.le_refl _) _
    | true =>
      have hs : Hid (getOp l = (⟨x, y, z⟩, i + j + k)) := by rw [hspec, if_neg (by rw [hfit]; simp; omega)]; rfl
      have Hfit := Lib.hid hfit
      clear hspec hbad hfit
      go_enter Tryz.func162, Tryz.ntmps162
      go_wp2_with (go_at_call 108; (refine (codec_reader A c l _ (w.heap.size + 1) (by simp) hr0).mono ?_); rintro e w1 ⟨rfl, hR1, hx1⟩)
      refine (rd_Get _ _ l true _ hR1).mono ?_
      rintro e w2 ⟨rfl, hR2, hx2⟩
      rw [← HI.out, ← HL1.out] at hR2
      rw [← HX.out]
      go_wp2_with fail
      refine (rd_GetSigned _ _ l1 _ _ hR2).mono ?_
      rintro e w3 ⟨rfl, hR3, hx3⟩
      rw [← HJ.out, ← HL2.out] at hR3
      rw [← HY.out]
      go_wp2_with fail
      refine (rd_GetSigned _ _ l2 _ _ hR3).mono ?_
      rintro e w4 ⟨rfl, hR4, hx4⟩
      rw [← HK.out, hfl.out, ← HL3.out] at hR4
      rw [← HZ.out]
      have hxr : Ex (w.alloc (.cells #[.int .i64 0, .int .i64 0, .int .i64 0] 67)) w4 := hx4.ex (hx3.ex (hx2.ex hx1 (by simp) (by simp)) (by simp) (by simp)) (by simp) (by simp)
      have hx41 : Ex w w4 := ((Ex.refl w).alloc _).trans hxr
      obtain ⟨q0, f0⟩ := hxr.both (new_cell w _ _ 0 rfl)
      obtain ⟨q1, f1⟩ := hxr.both (new_cell w _ _ 1 rfl)
      obtain ⟨q2, f2⟩ := hxr.both (new_cell w _ _ 2 rfl)
      have hw4 : w.heap.size < w4.heap.size := World.block_lt_of_cell? w4 _ q0
      go_wp2_with (first | (go_at_call 143; (refine (codec_reader2 _ _ _ _ _ (hR4.ex ((Ex.refl w4).alloc _))).mono ?_); rintro e w5 ⟨rfl, rfl⟩) | (go_at_call 92; (refine (objs_Fits ⟨x, y, z⟩ _).mono ?_); rintro e w5 ⟨rfl, hx5⟩; rw [Hfit.out]; have hR5 := hR4.ex (((Ex.refl w4).alloc _).trans hx5); (obtain ⟨o0, _⟩ := hx5.both (new_cell w4 #[.int .i64 x, .int .i64 y, .int .i64 z] 67 0 rfl)); (obtain ⟨o1, _⟩ := hx5.both (new_cell w4 #[.int .i64 x, .int .i64 y, .int .i64 z] 67 1 rfl)); (obtain ⟨o2, _⟩ := hx5.both (new_cell w4 #[.int .i64 x, .int .i64 y, .int .i64 z] 67 2 rfl)); (obtain ⟨q0, f0⟩ := (((Ex.refl w4).alloc _).trans hx5).both ⟨q0, f0⟩); (obtain ⟨q1, f1⟩ := (((Ex.refl w4).alloc _).trans hx5).both ⟨q1, f1⟩); (obtain ⟨q2, f2⟩ := (((Ex.refl w4).alloc _).trans hx5).both ⟨q2, f2⟩)))
      have hx51 : Ex w w5 := (hx41.alloc _).trans hx5
      have hw5 : w.heap.size < w5.heap.size := World.block_lt_of_cell? w5 _ q0
      go_region_with (go_at_call 144; go_loud (refine (codec_reader3 _ _ _ _ _ (hR5.ex (Ex.refl w5).drew)).mono ?_); rintro e w6 ⟨rfl, rfl⟩)
      all_goals
        go_wp2_with fail
        have gw : IntKind.i64.wrap ((l.length : Int) - (l3.length : Int)) = (l.length : Int) - (l3.length : Int) := IntWalk.i64_in _ (by omega)
        refine bodyPost_ret (v := .tuple #[.agg #[.int .i64 x, .int .i64 y, .int .i64 z], .int .i64 ((l.length : Int) - (l3.length : Int))]) (by simp [results, Tryz.results162, go_sem, q0, q1, q2, o0, o1, o2, hw5, gw]) rfl ⟨by rw [hs.out]; exact ret2 rfl (vint (by have := hn3.out; show _ = ((i + j + k : Nat) : Int); omega)), ?_⟩
        repeat' first
          | exact hx51
          | refine Ex.drew ?_
          | refine Ex.alloc ?_ _
          | refine Ex.set ?_ (Nat.le_refl _) _
end Go.Proofs.YtdghbnkegahdnaaGreat.B
