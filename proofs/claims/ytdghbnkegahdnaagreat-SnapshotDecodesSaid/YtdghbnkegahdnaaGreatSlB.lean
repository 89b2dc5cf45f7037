/- The walks of package slices at bytes: Equal, Clone, IndexFunc, ContainsFunc, Grow, Concat. -/
import Derived.Test.YtdghbnkegahdnaaGreatNumW
import Derived.Lib.SliceRun
import Derived.WalkSpells
set_option linter.unusedVariables false
set_option linter.unusedSimpArgs false
set_option maxRecDepth 100000
set_option maxHeartbeats 1000000
namespace Go.Proofs.YtdghbnkegahdnaaGreat.B
open Go Go.RowKit Go.Proofs

theorem u8_inj {a b : UInt8} (h : (a.toNat : Int) = b.toNat) : a = b := UInt8.toNat_inj.1 (by omega)
theorem take_eq_succ {α : Type} {xs ys : List α} {k : Nat} (h : xs.take k = ys.take k) (hx : k < xs.length) (hy : k < ys.length) (e : xs[k] = ys[k]) : xs.take (k + 1) = ys.take (k + 1) := by
  rw [List.take_succ_eq_append_getElem hx, List.take_succ_eq_append_getElem hy, h, e]

theorem slices_EqualB (A : Option Addr) (c : Nat) (xs : List UInt8) (A' : Option Addr) (c' : Nat) (ys : List UInt8) (w : World) (hr : Rd eB w A c xs) (hr' : Rd eB w A' c' ys) :
    Calls Tryz.prog 128 #[.slice A xs.length c, .slice A' ys.length c'] w fun e w' => e = .returned (.bool (decide (xs = ys))) ∧ Ex w w' := by
  have hlx := hr.lt63
  by_cases hlen : xs.length = ys.length
  · have h1 : ((xs.length : Int) != (ys.length : Int)) = false := by rw [hlen]; simp
    have Hlen := Lib.hid hlen; clear hlen
    go_enter Tryz.func128, Tryz.ntmps128
    go_wp2
    go_loopw [13] (fun i wr => ∃ k : Nat, i = .int .i64 k ∧ k ≤ xs.length ∧ Ex w wr ∧ Hid (xs.take k = ys.take k)) (fun i _ => (xs.length - intOf i).toNat)
    case atStart => exact ⟨0, rfl, by omega, Ex.refl _, rfl⟩
    case round =>
      obtain ⟨k, rfl, hk, hx, he⟩ := hrel
      by_cases hlt : k < xs.length
      · have hlt' : k < ys.length := by rw [← Hlen.out]; exact hlt
        obtain ⟨ad, rfl, hc⟩ := (hr.ex hx).at1 rfl hlt rfl
        obtain ⟨ad', rfl, hc'⟩ := (hr'.ex hx).at1 rfl hlt' rfl
        have p1 : (0 : Int) ≤ (k : Int) := by omega
        have p2 : (k : Int) < (xs.length : Int) := by omega
        have p3 : (k : Int) < (ys.length : Int) := by omega
        by_cases hxy : xs[k] = ys[k]
        · have hb : ((xs[k].toNat : Int) != (ys[k].toNat : Int)) = false := by rw [hxy]; simp
          have he2 := Lib.hid (take_eq_succ he.out hlt hlt' hxy)
          clear hxy
          go_wp2
          go_quiet (fail)
          go_wp2
          go_roundw
          case rel => exact ⟨k + 1, rfl, hlt, hx.drewN _, he2⟩
          case measure => simp [intOf]; omega
        · have hb : ((xs[k].toNat : Int) != (ys[k].toNat : Int)) = true := by rw [bne_iff_ne]; exact fun h => hxy (u8_inj h)
          have hne : Hid (¬ xs = ys) := fun h => hxy (by subst h; rfl)
          clear hxy
          go_wp2
          go_quiet (fail)
          go_wp2
          go_ret
          exact ⟨rbool (by rw [decide_eq_false hne.out]), hx.drewN _⟩
      · have hne : Hid (xs = ys) := by
          have h := he.out
          rw [List.take_of_length_le (by omega), List.take_of_length_le (by have := Hlen.out; omega)] at h
          exact h
        go_wp2
        go_ret
        exact ⟨rbool (by rw [decide_eq_true hne.out]), hx⟩
  · have h1 : ((xs.length : Int) != (ys.length : Int)) = true := by rw [bne_iff_ne]; omega
    have hne : Hid (¬ xs = ys) := fun h => hlen (by rw [h])
    clear hlen
    go_enter Tryz.func128, Tryz.ntmps128
    go_wp2
    go_ret
    exact ⟨rbool (by rw [decide_eq_false hne.out]), Ex.refl _⟩

theorem slices_CloneB (A : Option Addr) (c : Nat) (xs : List UInt8) (w : World) (hr : Rd eB w A c xs) (hl : xs.length ≤ 70000000000000) :
    Calls Tryz.prog 129 #[.slice A xs.length c] w fun e w' => ∃ v, e = .returned v ∧ Own eB 5 w' w.heap.size v xs ∧ Ex w w' := by
  have hnil := fun (w : World) => Go.Lib.run_eql_slice_nil (P := Tryz.prog) w 22 5 A xs.length c 0 0 Tryz.underlying22
  rcases A with _ | ad
  · have hx : xs = [] := by
      rcases xs with _ | ⟨x, xs⟩
      · rfl
      · obtain ⟨ad, h, _⟩ := hr.2.2 (by simp)
        cases h
    subst hx
    have hnil0 := fun (w : World) => Go.Lib.run_eql_slice_nil (P := Tryz.prog) w 22 5 none 0 c 0 0 Tryz.underlying22
    go_enter Tryz.func129, Tryz.ntmps129
    go_wp2
    go_ret
    exact ⟨_, rfl, Own.nil _ _ _ _, Ex.refl _⟩
  · have ho0 : Own eB 5 (w.alloc (.cells #[] 5)) w.heap.size (.slice (some ⟨w.heap.size, 0, none⟩) 0 0) ([] : List UInt8) := Own.lit (E := eB) w w.heap.size [] (Nat.le_refl _) (by simp)
    have hr1 := hr.ex ((Ex.refl w).alloc (.cells #[] 5))
    go_enter Tryz.func129, Tryz.ntmps129
    go_wp2_with ((with_reducible refine gate_bi (b := .append) (xs := #[.tmp 5, .tmp 6]) rfl ?_); at_builtin; go_loud (refine own_appR eB w.heap.size rfl (.tmp 5) (.tmp 6) 22 5 (.int .u8 0) 1 rfl Tryz.underlying22 infoB rfl (by decide) _ [] xs (some ad) c rfl rfl ho0 hr1 (by simp) (by simp; omega) ?_); intro v1 w1 ho1 hg1 ha1)
    go_ret
    exact ⟨v1, rfl, by simpa using ho1, ((Ex.refl w).alloc _).grown hg1 (fun k hk => by cases hk; exact Nat.le_refl _)⟩

/-- The index of the first that answers yes; -1. -/
def idxI {α : Type} (p : α → Bool) (xs : List α) : Int := match xs.findIdx? p with | some i => i | none => -1
theorem idxI_none {α : Type} {p : α → Bool} {xs : List α} (h : xs.any p = false) : idxI p xs = -1 := by
  unfold idxI
  rw [List.findIdx?_eq_none_iff.2 (fun x hx => by have := List.any_eq_false.1 h x hx; simpa using this)]
theorem idxI_some {α : Type} {p : α → Bool} {xs : List α} {k : Nat} (h : (xs.take k).any p = false) (hk : k < xs.length) (hp : p xs[k] = true) : idxI p xs = k := by
  unfold idxI
  rw [List.findIdx?_eq_some_iff_getElem.2 ⟨hk, hp, fun j hj => ?_⟩]
  have := List.any_eq_false.1 h xs[j] (by rw [List.mem_take_iff_getElem]; exact ⟨j, by omega, rfl⟩)
  simpa using this
theorem idxI_any {α : Type} (p : α → Bool) (xs : List α) : decide (idxI p xs ≥ 0) = xs.any p := by
  cases h : xs.any p with
  | false => rw [idxI_none h]; rfl
  | true =>
    unfold idxI
    cases hf : xs.findIdx? p with
    | none =>
      rw [List.findIdx?_eq_none_iff] at hf
      obtain ⟨x, hx, hp⟩ := List.any_eq_true.1 h
      rw [hf x hx] at hp; cases hp
    | some i => simp
theorem any_take_succ {α : Type} {p : α → Bool} {xs : List α} {k : Nat} (h : (xs.take k).any p = false) (hk : k < xs.length) (hp : p xs[k] = false) : (xs.take (k + 1)).any p = false := by
  rw [List.take_succ_eq_append_getElem hk, List.any_append, h]; simp [hp]

theorem slices_IndexFuncB (p : UInt8 → Bool) (f : Nat) (hf : Fv Tryz.prog f) (hp : ∀ (b : UInt8) (w : World), Calls Tryz.prog f #[.int .u8 (b.toNat : Int)] w fun e w' => e = .returned (.bool (p b)) ∧ w = w') (A : Option Addr) (c : Nat) (xs : List UInt8) (w : World) (hr : Rd eB w A c xs) :
    Calls Tryz.prog 167 #[.slice A xs.length c, .func (.func f) #[] #[]] w fun e w' => e = .returned (.int .i64 (idxI p xs)) ∧ w = w' := by
  have hlx := hr.lt63
  have Hp := Lib.hid hp; clear hp
  go_enter Tryz.func167, Tryz.ntmps167
  go_wp2_with fail
  go_loop [8] (fun i => ∃ k : Nat, i = .int .i64 k ∧ k ≤ xs.length ∧ Hid ((xs.take k).any p = false)) (fun i => (xs.length - intOf i).toNat)
  case atStart => exact ⟨0, rfl, by omega, rfl⟩
  case round =>
    obtain ⟨k, rfl, hk, he⟩ := hrel
    by_cases hlt : k < xs.length
    · obtain ⟨ad, rfl, hc⟩ := hr.at1 rfl hlt rfl
      cases hpk : p xs[k] with
      | true =>
        have Hpk := Lib.hid hpk; clear hpk
        go_wp2_with ((with_reducible refine gate_val (x := .tmp 11) (ps := #[.tmp 15]) rfl ?_); refine callv hf #[] #[.int .u8 (xs[k].toNat : Int)] rfl (.tmp 11) #[.tmp 15] _ rfl rfl rfl ?_; refine (Hp.out xs[k] _).mono ?_; rintro e w1 ⟨rfl, rfl⟩; refine ⟨_, rfl, ?_⟩; rw [Hpk.out])
        go_ret
        exact ⟨rint (idxI_some he.out hlt Hpk.out).symm, rfl⟩
      | false =>
        have Hpk := Lib.hid hpk; clear hpk
        go_wp2_with ((with_reducible refine gate_val (x := .tmp 11) (ps := #[.tmp 15]) rfl ?_); refine callv hf #[] #[.int .u8 (xs[k].toNat : Int)] rfl (.tmp 11) #[.tmp 15] _ rfl rfl rfl ?_; refine (Hp.out xs[k] _).mono ?_; rintro e w1 ⟨rfl, rfl⟩; refine ⟨_, rfl, ?_⟩; rw [Hpk.out])
        go_round
        case rel => exact ⟨k + 1, rfl, hlt, any_take_succ he.out hlt Hpk.out⟩
        case measure => simp [intOf]; omega
    · have hall : Hid (idxI p xs = -1) := by
        have h := he.out
        rw [List.take_of_length_le (by omega)] at h
        exact idxI_none h
      go_wp2_with fail
      go_ret
      exact ⟨rint hall.out.symm, rfl⟩
theorem slices_ContainsFuncB (p : UInt8 → Bool) (f : Nat) (hf : Fv Tryz.prog f) (hp : ∀ (b : UInt8) (w : World), Calls Tryz.prog f #[.int .u8 (b.toNat : Int)] w fun e w' => e = .returned (.bool (p b)) ∧ w = w') (A : Option Addr) (c : Nat) (xs : List UInt8) (w : World) (hr : Rd eB w A c xs) :
    Calls Tryz.prog 160 #[.slice A xs.length c, .func (.func f) #[] #[]] w fun e w' => e = .returned (.bool (xs.any p)) ∧ w = w' := by
  have Hp := Lib.hid hp; clear hp
  have ha := Lib.hid (idxI_any p xs)
  go_enter Tryz.func160, Tryz.ntmps160
  go_wp2_with (go_at_call 167; (with_reducible refine (slices_IndexFuncB p f hf Hp.out A c xs _ hr).mono ?_); rintro e w1 ⟨rfl, rfl⟩)
  go_ret
  exact ⟨rbool ha.out, rfl⟩
theorem run_app_make_nil (w : World) (t ti ty e : TypeId) (i : TypeInfo) (z : Value) (k kx : IntKind) (m : Nat) (ht : Tryz.prog.underlying t = some (.slice e)) (hti : Tryz.prog.underlying ti = some (.int k)) (hi : Tryz.prog.info? e = some i) (hz : i.zero = some z)
    (h0 : 0 < m) (hm : m * i.bytes ≤ 140737488355328) (hb : 0 < i.bytes) (hs : 0 < i.size) :
    (Builtin.append_ #[t, ti] ty #[.slice none 0 0, .int kx m]).run Tryz.prog w =
      .ok (.slice (some ⟨w.heap.size, 0, none⟩) m (grownCap w m 0 e)) (w.drew.alloc (.cells (Builtin.zeroCells z.cells m ++ Builtin.zeroCells z.cells (grownCap w m 0 e - m)) e)) := by
  have hle : m ≤ 140737488355328 := Nat.le_trans (Nat.le_mul_of_pos_right _ hb) hm
  have hw : IntKind.i64.wrap (m : Int) = m := by rw [IntKind.wrap_i64]; omega
  have hneg : ¬ ((m : Int) < 0) := by omega
  have hbig : ¬ (281474976710656 < (m : Int) * (i.bytes : Int)) := by rw [← Int.natCast_mul]; omega
  have h63 : ¬ (9223372036854775807 < (m : Int)) := by omega
  have h48 : ¬ (281474976710656 < Builtin.nextslicecap m 0 * i.bytes) := by rw [nextslicecap_zero h0]; omega
  have hmi : m ≠ 0 := by omega
  have hsi : i.size ≠ 0 := by omega
  have hmz : ¬ (m * i.size = 0) := Nat.mul_ne_zero hmi hsi
  simp [Builtin.append_, run_underlying ht, run_underlying hti, sizeOf, typeInfo, zeroValue, hi, hz, asInt, asIntOf, hw, hneg, hbig, hmi, hsi, h63, h48, Question.forced, run_firstCells_none, newRow, grownCap]
  exact fun h => absurd h hmz
theorem slices_GrowB (m : Nat) (hm : m ≤ 70000000000000) (w : World) :
    Calls Tryz.prog 66 #[.slice none 0 0, .int .i64 m] w fun e w' => ∃ v, e = .returned v ∧ Own eB 5 w' w.heap.size v [] ∧ Ex w w' := by
  obtain ⟨i0, hi, hzz⟩ := Option.map_eq_some_iff.1 infoB
  simp only [Prod.mk.injEq] at hzz
  obtain ⟨hz0, hz1, hz2⟩ := hzz
  by_cases h0 : m = 0
  · subst h0
    go_enter Tryz.func66, Tryz.ntmps66
    go_wp2_with fail
    go_ret
    exact ⟨_, rfl, Own.nil _ _ _ _, Ex.refl _⟩
  · have key : ∃ cap C, m ≤ cap ∧ (∀ ty, (Builtin.append_ #[22, 3] ty #[.slice none 0 0, .int .i64 (m : Int)]).run Tryz.prog w = .ok (.slice (some ⟨w.heap.size, 0, none⟩) m cap) (w.drew.alloc (.cells C 5))) ∧ Own eB 5 (w.drew.alloc (.cells C 5)) w.heap.size (.slice (some ⟨w.heap.size, 0, none⟩) 0 cap) [] := by
      have hge := grownCap_ge w m 0 5
      have hcm : grownCap w m 0 5 ≤ maxLen := grownCap_le_maxLen w m 0 _ (by simp only [maxLen]; omega)
      refine ⟨_, _, hge, fun ty => run_app_make_nil w 22 3 ty 5 i0 _ .i64 .i64 m Tryz.underlying22 Tryz.underlying3 hi hz0 (by omega) (by rw [hz2]; omega) (by rw [hz2]; decide) (by rw [hz1]; decide), ?_⟩
      exact World.ownsRow_made (base := w.heap.size) (e := 5) (size := 1) w.drew _ _ (Nat.le_refl _) hcm (by
        have h1 : (Value.int IntKind.u8 0).cells.size = 1 := rfl
        simp only [Array.size_append, size_zeroCells, h1]; omega)
    obtain ⟨cap, C, hge, happ, hown⟩ := key
    have Happ := Lib.hid happ
    clear happ hi hz0 hz1 hz2
    have h1 : 0 < m := by omega
    clear h0
    go_enter Tryz.func66, Tryz.ntmps66
    go_wp2_with ((with_reducible refine gate_bi (b := .append) (xs := #[.tmp 20, .tmp 21]) rfl ?_); go_loud (refine run_append_step rfl (.tmp 20) (.tmp 21) _ rfl (.slice none 0 0) (.int .i64 (m : Int)) rfl rfl (Happ.out _) ?_))
    go_ret
    exact ⟨_, rfl, hown, (Ex.refl w).drew.alloc _⟩

theorem flat_take {xss : List (List UInt8)} {k : Nat} (h : k < xss.length) : (xss.take (k + 1)).flatten = (xss.take k).flatten ++ xss[k] := by
  rw [List.take_succ_eq_append_getElem h, List.flatten_append]; simp
theorem flat_le (xss : List (List UInt8)) (k : Nat) : (xss.take k).flatten.length ≤ xss.flatten.length := by
  have : xss.flatten = (xss.take k).flatten ++ (xss.drop k).flatten := by rw [← List.flatten_append, List.take_append_drop]
  rw [this, List.length_append]; omega
theorem slices_ConcatB (A : Option Addr) (c : Nat) (xss : List (List UInt8)) (w : World) (hr : RdS w A c xss) (hl : xss.flatten.length ≤ 70000000000000) :
    Calls Tryz.prog 31 #[.slice A xss.length c] w fun e w' => ∃ v, e = .returned v ∧ Own eB 5 w' w.heap.size v xss.flatten ∧ Ex w w' := by
  have hlx := hr.len.2
  go_enter Tryz.func31, Tryz.ntmps31
  go_wp2_with fail
  go_loop [3, 11] (fun z i => ∃ k n : Nat, i = .int .i64 k ∧ k ≤ xss.length ∧ z = .int .i64 n ∧ n ≤ 70000000000000 ∧ Hid (n = (xss.take k).flatten.length)) (fun _ i => (xss.length - intOf i).toNat)
  case atStart => exact ⟨0, 0, rfl, by omega, rfl, by omega, rfl⟩
  case round =>
    obtain ⟨k, n, rfl, hk, rfl, hn, hnn⟩ := hrel
    by_cases hlt : k < xss.length
    · obtain ⟨ad, A', c', rfl, hc, hr'⟩ := hr.at_ hlt
      have hf := Lib.hid (flat_take hlt)
      have hfl := flat_le xss (k + 1)
      have hn2 : n + xss[k].length ≤ 70000000000000 := by rw [hf.out, List.length_append, ← hnn.out] at hfl; omega
      clear hfl
      go_wp2_with fail
      go_round
      case rel => exact ⟨k + 1, n + xss[k].length, rfl, hlt, vint (by omega), hn2, by rw [hf.out, List.length_append, ← hnn.out]; rfl⟩
      case measure => simp [intOf]; omega
    · have hn3 : Hid (n = xss.flatten.length) := by have h := hnn.out; rw [List.take_of_length_le (by omega)] at h; exact h
      go_wp2_with (go_at_call 66; (with_reducible refine (slices_GrowB n hn _).mono ?_); rintro e w1 ⟨v1, rfl, ho1, hx1⟩)
      go_loopw [6, 27] (fun v i wr => ∃ k : Nat, i = .int .i64 k ∧ k ≤ xss.length ∧ Ex w wr ∧ Own eB 5 wr w.heap.size v (xss.take k).flatten) (fun _ i _ => (xss.length - intOf i).toNat)
      case atStart => exact ⟨0, rfl, by omega, hx1, ho1⟩
      case round =>
        obtain ⟨k, rfl, hk, hx, ho⟩ := hrel
        by_cases hlt : k < xss.length
        · obtain ⟨ad, A', c', rfl, hc, hr'⟩ := (hr.ex hx).at_ hlt
          have hf := Lib.hid (flat_take hlt)
          have hfl := Lib.hid (flat_le xss (k + 1))
          have hle := hx.le
          go_wp2_with ((with_reducible refine gate_bi (b := .append) (xs := #[.tmp 31, .tmp 32]) rfl ?_); at_builtin; go_loud (refine own_appR eB w.heap.size rfl (.tmp 31) (.tmp 32) 22 5 (.int .u8 0) 1 rfl Tryz.underlying22 infoB rfl (by decide) _ (xss.take k).flatten xss[k] A' c' rfl rfl ho hr' hle (by have := hfl.out; rw [hf.out, List.length_append] at this; omega) ?_); intro v1 w1 ho1 hg1 ha1)
          go_roundw
          case rel => exact ⟨k + 1, rfl, hlt, hx.grown hg1 (fun j hj => (ho.lt j hj).1), by rw [hf.out]; exact ho1⟩
          case measure => simp [intOf]; omega
        · have hfull : Hid ((xss.take k).flatten = xss.flatten) := by rw [List.take_of_length_le (by omega)]; rfl
          go_wp2_with fail
          go_ret
          exact ⟨_, rfl, by rw [← hfull.out]; exact ho, hx⟩
end Go.Proofs.YtdghbnkegahdnaaGreat.B
