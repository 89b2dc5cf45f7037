/- The walks of the references of snapshots: table. -/
import Derived.Test.YtdghbnkegahdnaaGreatRef9W
import Derived.Test.YtdghbnkegahdnaaGreatSnapE
set_option linter.unusedVariables false
set_option linter.unusedSimpArgs false
set_option maxRecDepth 100000
set_option maxHeartbeats 2000000
namespace Go.Proofs.YtdghbnkegahdnaaGreat.B
open Go Go.RowKit Go.Proofs

/-- The entries that bytes are; none. -/
def tabR (b : List UInt8) : Option (List Ent) :=
  if (get b).2 = 0 ∨ b.length < (get b).1 then none else
  match getEs (get b).1 (b.drop (get b).2) with
  | none => none
  | some p => if 0 < p.2.length then none else some p.1
def TabR (b : List UInt8) (w : World) (e : Ending) (w' : World) : Prop := ∃ (v : Value) (ts : List Ent) (ok : Bool), e = .returned (.tuple #[v, .bool ok]) ∧ Own eE 72 w' w.heap.size v ts ∧ tabR b = (if ok = true then some ts else none) ∧ Ex w w'
theorem ref09_table (A : Option Addr) (c : Nat) (b : List UInt8) (w : World) (hr : Rd eB w A c b) (hl : b.length ≤ 1000000000000) :
    Calls Tryz.prog 76 #[.slice A b.length c] w (TabR b w) := by
  obtain ⟨m, hm⟩ : ∃ m, m = (get b).1 := ⟨_, rfl⟩
  obtain ⟨k, hk⟩ : ∃ k, k = (get b).2 := ⟨_, rfl⟩
  have hkl : k ≤ b.length := by rw [hk]; exact get_le b
  have hspec : tabR b = if k = 0 ∨ b.length < m then none else match getEs m (b.drop k) with | none => none | some p => if 0 < p.2.length then none else some p.1 := by
    unfold tabR; rw [← hm, ← hk]
  have HM := Lib.hid hm; have HK := Lib.hid hk
  clear hm hk
  by_cases h1 : k = 0
  · have e1 : ((k : Int) == 0) = true := by rw [h1]; rfl
    have hs : Hid (tabR b = none) := by rw [Hid, hspec, if_pos (.inl h1)]
    clear hspec h1
    go_enter Tryz.func76, Tryz.ntmps76
    go_wp2_with (go_at_call 72; go_loud (refine (ref01_Get A c b _ hr).mono ?_); rintro e w1 ⟨rfl, rfl⟩; rw [← HM.out, ← HK.out])
    go_ret2
    exact ⟨_, [], false, rfl, Own.nil _ _ _ _, hs.out, Ex.refl _⟩
  · have e1 : ((k : Int) == 0) = false := by rw [beq_eq_false_iff_ne]; omega
    by_cases h2 : b.length < m
    · have hs : Hid (tabR b = none) := by rw [Hid, hspec, if_pos (.inr h2)]
      clear hspec h1
      go_enter Tryz.func76, Tryz.ntmps76
      go_wp2_with (go_at_call 72; go_loud (refine (ref01_Get A c b _ hr).mono ?_); rintro e w1 ⟨rfl, rfl⟩; rw [← HM.out, ← HK.out])
      go_ret2
      exact ⟨_, [], false, rfl, Own.nil _ _ _ _, hs.out, Ex.refl _⟩
    · rw [if_neg (by omega)] at hspec
      have hs0 := Lib.hid hspec
      clear hspec h1
      go_enter Tryz.func76, Tryz.ntmps76
      go_wp2_with (go_at_call 72; go_loud (refine (ref01_Get A c b _ hr).mono ?_); rintro e w1 ⟨rfl, rfl⟩; rw [← HM.out, ← HK.out])
      go_loopw [5, 6, 7] (fun at_ v i wr => ∃ (q j : Nat) (tb : List Ent), at_ = .int .i64 j ∧ i = .int .i64 q ∧ q ≤ m ∧ j ≤ b.length ∧ Hid (tb.length = q) ∧ Own eE 72 wr w.heap.size v tb ∧ Ex w wr ∧ Hid (getEs m (b.drop k) = (getEs (m - q) (b.drop j)).map fun p => (tb ++ p.1, p.2))) (fun _ _ i _ => (m - intOf i).toNat)
      case atStart => exact ⟨0, k, [], rfl, rfl, by omega, hkl, rfl, Own.nil _ _ _ _, Ex.refl _, by rw [Nat.sub_zero]; cases getEs m (b.drop k) <;> rfl⟩
      case round =>
        obtain ⟨q, j, tb, rfl, rfl, hq, hj, htl, ho, hx, hg⟩ := hrel
        obtain ⟨A9, c9, rfl, hr9⟩ := ho.rd
        by_cases hlt : q < m
        · have hgs := get_es m q hlt (b.drop j)
          obtain ⟨A0, c0, y0, hy0, run0, r0⟩ := cut_from (P := Tryz.prog) wr 22 5 Tryz.underlying22 sizeB (hr.ex hx) (j : Int) (by omega) (by omega)
          have e0 : y0 = b.drop j := by have h := hy0.out; rw [Int.toNat_natCast] at h; exact h
          obtain ⟨p, hp⟩ : ∃ p, p = (get y0).1 := ⟨_, rfl⟩
          obtain ⟨i1, hi1⟩ : ∃ i, i = (get y0).2 := ⟨_, rfl⟩
          have z1 := get_le y0
          rw [← hi1] at z1
          have l0 : y0.length + j = b.length := by rw [e0, List.length_drop]; omega
          obtain ⟨A1, c1, y1, hy1, run1, r1⟩ := cut_from (P := Tryz.prog) wr 22 5 Tryz.underlying22 sizeB (hr.ex hx) ((j : Int) + (i1 : Int)) (by omega) (by omega)
          have e1' : y1 = y0.drop i1 := by have h := hy1.out; rw [show ((j : Int) + (i1 : Int)).toNat = j + i1 by omega] at h; rw [h, e0, List.drop_drop]
          obtain ⟨s, hs⟩ : ∃ s, s = (get y1).1 := ⟨_, rfl⟩
          obtain ⟨i2, hi2⟩ : ∃ i, i = (get y1).2 := ⟨_, rfl⟩
          have z2 := get_le y1
          rw [← hi2] at z2
          have l1 : y1.length + i1 = y0.length := by rw [e1', List.length_drop]; omega
          obtain ⟨A2, c2, y2, hy2, run2, r2⟩ := cut_from (P := Tryz.prog) wr 22 5 Tryz.underlying22 sizeB (hr.ex hx) ((j : Int) + (i1 : Int) + (i2 : Int)) (by omega) (by omega)
          have e2 : y2 = y1.drop i2 := by have h := hy2.out; rw [show ((j : Int) + (i1 : Int) + (i2 : Int)).toNat = j + i1 + i2 by omega] at h; rw [h, e1', e0, List.drop_drop, List.drop_drop]; congr 1; omega
          obtain ⟨r, hrr⟩ : ∃ r, r = (getS y2).1 := ⟨_, rfl⟩
          obtain ⟨i3, hi3⟩ : ∃ i, i = (getS y2).2 := ⟨_, rfl⟩
          have z3 := getS_le y2
          rw [← hi3] at z3
          have l2 : y2.length + i2 = y1.length := by rw [e2, List.length_drop]; omega
          have hge : getE (b.drop j) = if i1 = 0 ∨ i2 = 0 ∨ i3 = 0 then (⟨0, 0, 0⟩, 0) else (⟨p, s, r⟩, i1 + i2 + i3) := by
            unfold getE
            simp only [← e0, ← hi1, ← e1', ← hi2, ← e2, ← hi3, ← hp, ← hs, ← hrr]
          have hs3 : j + i1 + i2 + i3 ≤ b.length := by omega
          have hs2 : j + i1 + i2 ≤ b.length := by omega
          have hs1 : j + i1 ≤ b.length := by omega
          have HP := Lib.hid hp; have HI1 := Lib.hid hi1; have HS := Lib.hid hs; have HI2 := Lib.hid hi2; have HR := Lib.hid hrr; have HI3 := Lib.hid hi3
          have hl7 : b.length ≤ 70000000000000 := by omega
          clear hp hi1 hs hi2 hrr hi3 hy0 hy1 hy2 e0 e1' e2 z1 z2 z3 l0 l1 l2
          have hcase : (((i1 : Int) == 0) = true ∧ Hid (tabR b = none)) ∨ (((i1 : Int) == 0) = false ∧ ((i2 : Int) == 0) = true ∧ Hid (tabR b = none)) ∨ (((i1 : Int) == 0) = false ∧ ((i2 : Int) == 0) = false ∧ ((i3 : Int) == 0) = true ∧ Hid (tabR b = none)) ∨
              (((i1 : Int) == 0) = false ∧ ((i2 : Int) == 0) = false ∧ ((i3 : Int) == 0) = false ∧ Hid (getEs m (b.drop k) = (getEs (m - (q + 1)) (b.drop (j + i1 + i2 + i3))).map fun x => ((tb ++ [⟨p, s, r⟩]) ++ x.1, x.2))) := by
            have hbad : (i1 = 0 ∨ i2 = 0 ∨ i3 = 0) → Hid (tabR b = none) := fun h => by
              rw [Hid, hs0.out, hg.out, hgs, hge, if_pos h, if_pos rfl]; rfl
            by_cases h1 : i1 = 0
            · exact .inl ⟨by rw [h1]; rfl, hbad (.inl h1)⟩
            · have g1 : ((i1 : Int) == 0) = false := by rw [beq_eq_false_iff_ne]; omega
              by_cases h2 : i2 = 0
              · exact .inr (.inl ⟨g1, by rw [h2]; rfl, hbad (.inr (.inl h2))⟩)
              · have g2 : ((i2 : Int) == 0) = false := by rw [beq_eq_false_iff_ne]; omega
                by_cases h3 : i3 = 0
                · exact .inr (.inr (.inl ⟨g1, g2, by rw [h3]; rfl, hbad (.inr (.inr h3))⟩))
                · refine .inr (.inr (.inr ⟨g1, g2, by rw [beq_eq_false_iff_ne]; omega, ?_⟩))
                  have hge2 : getE (b.drop j) = (⟨p, s, r⟩, i1 + i2 + i3) := by rw [hge, if_neg (by omega)]
                  rw [Hid, hg.out, hgs, hge2, if_neg (by simp only; omega), Option.map_map]
                  simp only [List.drop_drop]
                  rw [show j + (i1 + i2 + i3) = j + i1 + i2 + i3 by omega]
                  congr 1
                  funext x
                  simp
          clear hge hgs hg
          have gw1 := gw_of _ _ hs1 hl7
          have gw2 := gw_of _ _ hs2 hl7
          have gw3 := gw_of _ _ hs3 hl7
          rw [show ((j + i1 : Nat) : Int) = (j : Int) + (i1 : Int) from by push_cast; rfl] at gw1
          rw [show ((j + i1 + i2 : Nat) : Int) = (j : Int) + (i1 : Int) + (i2 : Int) from by push_cast; rfl] at gw2
          rw [show ((j + i1 + i2 + i3 : Nat) : Int) = (j : Int) + (i1 : Int) + (i2 : Int) + (i3 : Int) from by push_cast; rfl] at gw3
          have HG := Lib.hid (And.intro gw1 (And.intro gw2 gw3))
          have hno : ∀ k', (Value.slice A9 tb.length c9).ownBlock = some k' → w.heap.size ≤ k' := fun k' hk' => (ho.lt k' hk').1
          have Hno := Lib.hid hno
          have hlen : Hid ((tb.length + [(⟨p, s, r⟩ : Ent)].length) * 24 ≤ 140737488355328) := by
            have := htl.out
            rw [Hid, this, List.length_singleton]; clear gw1 gw2 gw3; omega
          clear hno
          rcases hcase with ⟨k1, hs⟩ | ⟨k1, k2, hs⟩ | ⟨k1, k2, k3, hs⟩ | ⟨k1, k2, k3, hst⟩
          all_goals
            go_wp2_with (first
              | (go_at_call_of 72 A1; refine (ref01_Get A1 c1 y1 _ r1).mono ?_; rintro e w1 ⟨rfl, rfl⟩; rw [← HS.out, ← HI2.out])
              | (go_at_call 72; refine (ref01_Get A0 c0 y0 _ r0).mono ?_; rintro e w1 ⟨rfl, rfl⟩; rw [← HP.out, ← HI1.out])
              | (go_at_call 117; refine (ref01_GetSigned A2 c2 y2 _ r2).mono ?_; rintro e w1 ⟨rfl, rfl⟩; rw [← HR.out, ← HI3.out])
              | ((with_reducible refine gate_bi (b := .append) (xs := #[.tmp 69, .tmp 74]) rfl ?_); at_builtin; go_loud (refine own_appR eE w.heap.size rfl (.tmp 69) (.tmp 74) 37 72 (.agg #[.int .i64 0, .int .i64 0, .int .i64 0]) 24 rfl Tryz.underlying37 infoE rfl (by decide) _ tb [⟨p, s, r⟩] (some ⟨wr.heap.size, 0, none⟩) 1 rfl rfl (ho.ex ((Ex.refl _).alloc _)) (rd_one eE wr 72 ⟨p, s, r⟩) (Nat.le_trans hx.le ((Ex.refl wr).alloc _).le) hlen.out ?_); intro v1 w1 ho1 hg1 ha1))
          · go_ret2
            exact ⟨_, [], false, rfl, Own.nil _ _ _ _, hs.out, hx⟩
          · go_ret2
            exact ⟨_, [], false, rfl, Own.nil _ _ _ _, hs.out, hx⟩
          · go_ret2
            exact ⟨_, [], false, rfl, Own.nil _ _ _ _, hs.out, hx⟩
          · clear gw1 gw2 gw3
            go_roundw
            case rel => exact ⟨q + 1, j + i1 + i2 + i3, tb ++ [⟨p, s, r⟩], vint (by first | (push_cast; rfl) | (rw [HG.out.2.2]; push_cast; rfl)), by go_num, hlt, hs3, by rw [Hid, List.length_append, htl.out]; rfl, ho1, (hx.alloc _).grown hg1 (fun k' hk' => Hno.out k' hk'), hst⟩
            case measure => simp [intOf]; omega
        · have hqm : q = m := by omega
          have he : getEs m (b.drop k) = some (tb, b.drop j) := by
            have h := hg.out
            rw [hqm, Nat.sub_self] at h
            rw [h]; simp [getEs]
          have hsp : tabR b = if 0 < (b.drop j).length then none else some tb := by rw [hs0.out, he]
          rw [List.length_drop] at hsp
          by_cases hjb : j = b.length
          · have hs : Hid (tabR b = some tb) := by rw [Hid, hsp, if_neg (by omega)]
            have e3 : ((j : Int) == (b.length : Int)) = true := by rw [beq_iff_eq]; omega
            clear hsp he hg hqm hjb
            go_wp2_with fail
            go_ret2
            exact ⟨_, tb, true, rfl, ho, hs.out, hx⟩
          · have hs : Hid (tabR b = none) := by rw [Hid, hsp, if_pos (by omega)]
            have e3 : ((j : Int) == (b.length : Int)) = false := by rw [beq_eq_false_iff_ne]; omega
            clear hsp he hg hqm hjb
            go_wp2_with fail
            go_ret2
            exact ⟨_, tb, false, rfl, ho, hs.out, hx⟩
end Go.Proofs.YtdghbnkegahdnaaGreat.B
