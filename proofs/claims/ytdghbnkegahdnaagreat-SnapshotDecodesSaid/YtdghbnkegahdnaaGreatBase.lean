/- Words of this session's own for the walks: worlds that extend each other, slices that are read, slices of the call's own. No program in sight. -/
import Derived.WalkKit
import Derived.KernelRfl
import Derived.Below
import Derived.Maps.AppendAt
import Derived.Deep.AppendLies
import Derived.Deep.LoopGhost
import Derived.Deep.QuietTactic
import Derived.BigQuiet
import Derived.WideLaws
import Derived.Deep.DeepCutAuto
import Derived.Deep.CutBlock
import Derived.Lib.Hide
import Derived.Laws.ResultCell
import Derived.WalkLawsBesides
set_option linter.unusedVariables false
set_option linter.unusedSimpArgs false
namespace Go.Proofs.YtdghbnkegahdnaaGreat.B
open Go Go.RowKit

/-! ### worlds -/
/-- Every block of w is in w' as it was. -/
def Ex (w w' : World) : Prop := Below w.heap.size w w'
theorem Ex.refl (w : World) : Ex w w := Below.refl _ _
theorem Ex.trans {a b c : World} (h : Ex a b) (k : Ex b c) : Ex a c := Below.trans h (Below.mono k h.size)
theorem Ex.alloc {a w : World} (h : Ex a w) (o : Obj) : Ex a (w.alloc o) := Below.alloc h h.size o
theorem Ex.drew {a w : World} (h : Ex a w) : Ex a w.drew := Below.drew h
theorem Ex.drewN {a w : World} (h : Ex a w) (n : Nat) : Ex a (w.drewN n) := ⟨h.os, h.tape, h.output, h.size, h.block⟩
theorem Ex.set {a w : World} (h : Ex a w) {p : Addr} (hp : a.heap.size ≤ p.block) (u : Value) : Ex a (w.setCell p u) := Below.setCell h hp u
theorem Ex.cell {w w' : World} (h : Ex w w') {p : Addr} {v : Value} (hc : w.cell? p = some v) : w'.cell? p = some v := (Below.cell h (World.block_lt_of_cell? w p hc)).trans hc
theorem Ex.frozen {w w' : World} (h : Ex w w') {p : Addr} (hp : p.block < w.heap.size) : w'.frozen? p = w.frozen? p := Below.frozen h hp
theorem Ex.le {w w' : World} (h : Ex w w') : w.heap.size ≤ w'.heap.size := h.size
theorem Ex.heap {w w' : World} (h : Ex w w') {k : Nat} {o : Obj} (hk : w.heap[k]? = some o) : w'.heap[k]? = some o := (h.block k (Array.getElem?_eq_some_iff.1 hk).1).trans hk
theorem Ex.grown {a w w' : World} (h : Ex a w) {row : Option Nat} (hg : w.grownBy w' row) (hr : ∀ k, row = some k → a.heap.size ≤ k) : Ex a w' := Below.grown h hg h.size hr
theorem Ex.gb {w w' : World} (h : Ex w w') (row : Option Nat) : w.grownBy w' row := ⟨h.os, h.tape, h.output, h.size, fun i hi _ => h.block i hi⟩
theorem ex_alloc {a w : World} (o : Obj) (h : Ex a w) : Ex a (w.alloc o) := h.alloc o
theorem gb_trans {a b c : World} {row row' : Option Nat} (h : a.grownBy b row) (k : b.grownBy c row') (hr : ∀ i, row' = some i → row = some i ∨ a.heap.size ≤ i) : a.grownBy c row :=
  ⟨k.os.trans h.os, k.tape.trans h.tape, k.output.trans h.output, Nat.le_trans h.size k.size, fun i hi hne =>
    (k.block i (Nat.lt_of_lt_of_le hi h.size) (fun e => by rcases hr i e.symm with h1 | h1; exact hne h1.symm; omega)).trans (h.block i hi hne)⟩
theorem gb_refl (w : World) (row : Option Nat) : w.grownBy w row := ⟨rfl, rfl, rfl, Nat.le_refl _, fun _ _ _ => rfl⟩
theorem gb_drew {a b : World} {row : Option Nat} (h : a.grownBy b row) : a.grownBy b.drew row := ⟨h.os, h.tape, h.output, h.size, h.block⟩
theorem gb_alloc {a b : World} {row : Option Nat} (h : a.grownBy b row) (o : Obj) : a.grownBy (b.alloc o) row := gb_trans h (World.grownBy_alloc b o none) (fun i h => by cases h)

theorem ret2 {a b a' b' : Value} (h1 : a = a') (h2 : b = b') : Ending.returned (.tuple #[a, b]) = Ending.returned (.tuple #[a', b']) := by rw [h1, h2]
theorem ret3 {a b c a' b' c' : Value} (h1 : a = a') (h2 : b = b') (h3 : c = c') : Ending.returned (.tuple #[a, b, c]) = Ending.returned (.tuple #[a', b', c']) := by rw [h1, h2, h3]
theorem vint {k : IntKind} {a b : Int} (h : a = b) : Value.int k a = Value.int k b := by rw [h]
theorem vbool {a b : Bool} (h : a = b) : Value.bool a = Value.bool b := by rw [h]
theorem rint {k : IntKind} {a b : Int} (h : a = b) : Ending.returned (Value.int k a) = Ending.returned (Value.int k b) := by rw [h]
theorem rbool {a b : Bool} (h : a = b) : Ending.returned (Value.bool a) = Ending.returned (Value.bool b) := by rw [h]

theorem new_cell (w : World) (cs : Array Value) (t : TypeId) (j : Nat) {u : Value} (h : cs[j]? = some u) : (w.alloc (.cells cs t)).cell? ⟨w.heap.size, j, none⟩ = some u ∧ (w.alloc (.cells cs t)).frozen? ⟨w.heap.size, j, none⟩ = false :=
  ⟨by rw [cell_of_row _ _ j cs t (0, 0) (heap_alloc_new w _)]; exact h, frozen_of_row _ _ j cs t (heap_alloc_new w _)⟩
theorem Ex.both {w w' : World} (h : Ex w w') {p : Addr} {v : Value} (hc : w.cell? p = some v ∧ w.frozen? p = false) : w'.cell? p = some v ∧ w'.frozen? p = false :=
  ⟨h.cell hc.1, (h.frozen (World.block_lt_of_cell? w p hc.1)).trans hc.2⟩

/-! ### elements -/
/-- How an element lies in memory. -/
structure Enc (α : Type) where
  sz : Nat
  cs : α → List Value
  len : ∀ x, (cs x).length = sz
  one : ∀ x, ∀ u ∈ cs x, u.oneCell' = true
  pos : 0 < sz
def eB : Enc UInt8 := ⟨1, fun b => [.int .u8 b.toNat], fun _ => rfl, fun x u hu => by rw [List.mem_singleton.1 hu]; rfl, Nat.one_pos⟩
def eI : Enc Int := ⟨1, fun b => [.int .i64 b], fun _ => rfl, fun x u hu => by rw [List.mem_singleton.1 hu]; rfl, Nat.one_pos⟩
/-- A slice as a value. -/
structure SlV where
  A : Option Addr
  n : Nat
  c : Nat
def SlV.v (s : SlV) : Value := .slice s.A s.n s.c
def eS : Enc SlV := ⟨1, fun s => [.slice s.A s.n s.c], fun _ => rfl, fun x u hu => by rw [List.mem_singleton.1 hu]; rfl, Nat.one_pos⟩
def Enc.all {α : Type} (E : Enc α) (xs : List α) : List Value := xs.flatMap E.cs
theorem Enc.all_len {α : Type} (E : Enc α) (xs : List α) : (E.all xs).length = xs.length * E.sz := by
  induction xs with
  | nil => simp [Enc.all]
  | cons x xs ih => simp only [Enc.all, List.flatMap_cons, List.length_append, List.length_cons, E.len] at ih ⊢; rw [ih, Nat.add_mul]; omega
theorem Enc.all_append {α : Type} (E : Enc α) (xs ys : List α) : E.all (xs ++ ys) = E.all xs ++ E.all ys := by simp [Enc.all]
theorem Enc.all_get {α : Type} (E : Enc α) : ∀ (xs : List α) (j : Nat) (x : α) (i : Nat) (u : Value), xs[j]? = some x → (E.cs x)[i]? = some u → (E.all xs)[j * E.sz + i]? = some u := by
  intro xs
  induction xs with
  | nil => intro j x i u h; simp at h
  | cons y ys ih =>
    intro j x i u hx hu
    have hi : i < E.sz := by have := (List.getElem?_eq_some_iff.1 hu).1; rwa [E.len] at this
    have hy := E.len y
    cases j with
    | zero =>
      simp only [List.getElem?_cons_zero, Option.some.injEq] at hx
      subst hx
      simp only [Enc.all, List.flatMap_cons, Nat.zero_mul, Nat.zero_add]
      rw [List.getElem?_append_left (by omega)]; exact hu
    | succ j =>
      simp only [List.getElem?_cons_succ] at hx
      have := ih j x i u hx hu
      simp only [Enc.all, List.flatMap_cons]
      rw [List.getElem?_append_right (by rw [hy, Nat.add_mul]; omega)]
      rw [hy, show (j + 1) * E.sz + i - E.sz = j * E.sz + i from by rw [Nat.add_mul]; omega]
      exact this
theorem Enc.all_one {α : Type} (E : Enc α) (xs : List α) : ∀ u ∈ E.all xs, u.oneCell' = true := by
  intro u hu
  obtain ⟨x, _, hx⟩ := List.mem_flatMap.1 hu
  exact E.one x u hx

/-! ### a slice that is read -/
def Rd {α : Type} (E : Enc α) (w : World) (A : Option Addr) (c : Nat) (xs : List α) : Prop :=
  xs.length ≤ c ∧ xs.length ≤ 9223372036854775807 ∧ (0 < xs.length → ∃ ad, A = some ad ∧ ad.block < w.heap.size ∧ ∀ j x, xs[j]? = some x → ∀ i u, (E.cs x)[i]? = some u → w.cell? (ad.add (j * E.sz + i)) = some u)
section
variable {α : Type} {E : Enc α} {w w' : World} {A : Option Addr} {c : Nat} {xs : List α}
theorem Rd.ex (h : Rd E w A c xs) (hx : Ex w w') : Rd E w' A c xs :=
  ⟨h.1, h.2.1, fun hp => by
    obtain ⟨ad, e, hlt, hc⟩ := h.2.2 hp
    exact ⟨ad, e, Nat.lt_of_lt_of_le hlt hx.le, fun j x hj i u hu => hx.cell (hc j x hj i u hu)⟩⟩
theorem Rd.nil (E : Enc α) (w : World) (A : Option Addr) (c : Nat) : Rd E w A c [] := ⟨Nat.zero_le _, by simp, fun h => absurd h (by simp)⟩
theorem Rd.grown (h : Rd E w A c xs) {row : Option Nat} (hg : w.grownBy w' row) (hne : ∀ a, A = some a → row ≠ some a.block) : Rd E w' A c xs :=
  ⟨h.1, h.2.1, fun hp => by
    obtain ⟨ad, e, hlt, hc⟩ := h.2.2 hp
    refine ⟨ad, e, Nat.lt_of_lt_of_le hlt hg.size, fun j x hj i u hu => hg.cell (hc j x hj i u hu) ?_⟩
    have : (ad.add (j * E.sz + i)).block = ad.block := by unfold Addr.add; split <;> rfl
    rw [this]; exact fun e' => hne ad e e'.symm⟩
theorem Rd.len (h : Rd E w A c xs) : xs.length ≤ c := h.1
theorem Rd.lt63 (h : Rd E w A c xs) : xs.length ≤ 9223372036854775807 := h.2.1
/-- Its element j, cell by cell. -/
theorem Rd.at (h : Rd E w A c xs) (j : Nat) (hj : j < xs.length) : ∃ ad, A = some ad ∧ ∀ i u, (E.cs xs[j])[i]? = some u → w.cell? (ad.add (j * E.sz + i)) = some u := by
  obtain ⟨ad, e, _, hc⟩ := h.2.2 (by omega)
  exact ⟨ad, e, fun i u hu => hc j _ (List.getElem?_eq_getElem hj) i u hu⟩
theorem Rd.at1 (h : Rd E w A c xs) (h1 : E.sz = 1) {j : Nat} (hj : j < xs.length) {u : Value} (hu : E.cs xs[j] = [u]) : ∃ ad, A = some ad ∧ w.cell? (ad.add j) = some u := by
  obtain ⟨ad, e, hc⟩ := h.at j hj
  refine ⟨ad, e, ?_⟩
  have := hc 0 u (by rw [hu]; rfl)
  rwa [h1, Nat.mul_one, Nat.add_zero] at this
theorem add_comp (ad : Addr) (a b : Nat) : (ad.add a).add b = ad.add (a + b) := by
  unfold Addr.add
  by_cases ha : a = 0
  · subst ha; simp
  · by_cases hb : b = 0
    · subst hb; simp [ha]
    · simp [ha, hb, Nat.add_assoc]
theorem add_succ (ad : Addr) (k : Nat) : ad.add (k + 1) = ⟨ad.block, ad.off + (k + 1), none⟩ := by unfold Addr.add; rw [if_neg (by omega)]
/-- What a cut leaves, as addresses. -/
def cutA (A : Option Addr) (c k s : Nat) : Option Addr := if c = k then A else A.map (·.add (k * s))
theorem Rd.cut (h : Rd E w A c xs) (a b m : Nat) (hab : a ≤ b) (hb : b ≤ xs.length) (hm : b ≤ m) (hmc : m ≤ c) : Rd E w (cutA A m a E.sz) (m - a) ((xs.take b).drop a) := by
  have hl : ((xs.take b).drop a).length = b - a := by rw [List.length_drop, List.length_take]; omega
  refine ⟨by rw [hl]; omega, by have := h.2.1; rw [hl]; omega, fun hp => ?_⟩
  rw [hl] at hp
  obtain ⟨ad, e, hlt, hc⟩ := h.2.2 (by omega)
  refine ⟨ad.add (a * E.sz), by unfold cutA; rw [if_neg (by omega), e]; rfl, by
    have : (ad.add (a * E.sz)).block = ad.block := by unfold Addr.add; split <;> rfl
    rw [this]; exact hlt, fun j x hj i u hu => ?_⟩
  rw [List.getElem?_drop, List.getElem?_take] at hj
  split at hj
  · rw [add_comp, show a * E.sz + (j * E.sz + i) = (a + j) * E.sz + i from by rw [Nat.add_mul]; omega]
    exact hc _ _ hj i u hu
  · cases hj
end
section
variable {α : Type} {E : Enc α} {P : Program} {A : Option Addr} {c : Nat} {xs : List α}
theorem info_cut {t e : TypeId} {s : Nat} (ht : P.underlying t = some (.slice e)) (hs : (P.info? e).map (·.size) = some s) : P.underlying t = some (.slice (P.elem t)) ∧ (∀ W, (sizeOf (P.elem t)).run P W = .ok s W) := by
  have hel : P.elem t = e := by simp [Program.elem, ht]
  obtain ⟨i, hi, hi2⟩ := Option.map_eq_some_iff.1 hs
  refine ⟨by rw [hel]; exact ht, fun W => ?_⟩
  rw [hel]
  simp [sizeOf, typeInfo, hi, hi2]
/-- b[k:] -/
theorem cut_from (w : World) (t e : TypeId) (ht : P.underlying t = some (.slice e)) (hs : (P.info? e).map (·.size) = some E.sz) (h : Rd E w A c xs) (k : Int) (h0 : 0 ≤ k) (h1 : k ≤ xs.length) :
    ∃ A' c' ys, Hid (ys = xs.drop k.toNat) ∧ (∀ W : World, (Instr.slice t (.slice A xs.length c) (some (.int .i64 k)) none none).run P W = .ok (.slice A' ys.length c') W) ∧ Rd E w A' c' ys := by
  obtain ⟨hu, hz⟩ := info_cut ht hs
  have hc := h.1
  refine ⟨cutA A c k.toNat E.sz, c - k.toNat, xs.drop k.toNat, rfl, fun W => ?_, ?_⟩
  · rw [run_slice_l W t A xs.length c hu .i64 k h0 h1, hz, List.length_drop]
    simp [sliced, Result.andThen, cutA]
  · have := h.cut k.toNat xs.length c (by omega) (Nat.le_refl _) hc (Nat.le_refl _)
    rwa [List.take_length] at this
/-- The same, and where what is left lies. -/
theorem cut_fromB (w : World) (t e : TypeId) (ht : P.underlying t = some (.slice e)) (hs : (P.info? e).map (·.size) = some E.sz) (h : Rd E w A c xs) (k : Int) (h0 : 0 ≤ k) (h1 : k ≤ xs.length) :
    ∃ A' c' ys, Hid (ys = xs.drop k.toNat) ∧ (∀ W : World, (Instr.slice t (.slice A xs.length c) (some (.int .i64 k)) none none).run P W = .ok (.slice A' ys.length c') W) ∧ Rd E w A' c' ys ∧ ∀ a', A' = some a' → ∃ a, A = some a ∧ a.block = a'.block := by
  obtain ⟨hu, hz⟩ := info_cut ht hs
  have hc := h.1
  refine ⟨cutA A c k.toNat E.sz, c - k.toNat, xs.drop k.toNat, rfl, fun W => ?_, ?_, fun a' ha' => ?_⟩
  · rw [run_slice_l W t A xs.length c hu .i64 k h0 h1, hz, List.length_drop]
    simp [sliced, Result.andThen, cutA]
  · have := h.cut k.toNat xs.length c (by omega) (Nat.le_refl _) hc (Nat.le_refl _)
    rwa [List.take_length] at this
  · unfold cutA at ha'
    split at ha'
    · exact ⟨a', ha', rfl⟩
    · cases A with
      | none => cases ha'
      | some a => cases ha'; exact ⟨a, rfl, by unfold Addr.add; split <;> rfl⟩
/-- b[:k] -/
theorem cut_to (w : World) (t e : TypeId) (ht : P.underlying t = some (.slice e)) (hs : (P.info? e).map (·.size) = some E.sz) (h : Rd E w A c xs) (k : Int) (h0 : 0 ≤ k) (h1 : k ≤ xs.length) :
    ∃ A' c' ys, Hid (ys = xs.take k.toNat) ∧ (∀ W : World, (Instr.slice t (.slice A xs.length c) none (some (.int .i64 k)) none).run P W = .ok (.slice A' ys.length c') W) ∧ Rd E w A' c' ys := by
  obtain ⟨hu, hz⟩ := info_cut ht hs
  have hc := h.1
  refine ⟨cutA A c 0 E.sz, c, xs.take k.toNat, rfl, fun W => ?_, ?_⟩
  · rw [run_slice_h W t A xs.length c hu .i64 k h0 (by omega), hz, List.length_take]
    simp [sliced, Result.andThen, cutA]
    omega
  · have := h.cut 0 k.toNat c (by omega) (by omega) (by omega) (Nat.le_refl _)
    rwa [List.drop_zero, Nat.sub_zero] at this
/-- b[a:b] -/
theorem cut_mid (w : World) (t e : TypeId) (ht : P.underlying t = some (.slice e)) (hs : (P.info? e).map (·.size) = some E.sz) (h : Rd E w A c xs) (a b : Int) (h0 : 0 ≤ a) (h1 : a ≤ b) (h2 : b ≤ xs.length) :
    ∃ A' c' ys, Hid (ys = (xs.take b.toNat).drop a.toNat) ∧ (∀ W : World, (Instr.slice t (.slice A xs.length c) (some (.int .i64 a)) (some (.int .i64 b)) none).run P W = .ok (.slice A' ys.length c') W) ∧ Rd E w A' c' ys := by
  obtain ⟨hu, hz⟩ := info_cut ht hs
  have hc := h.1
  refine ⟨cutA A c a.toNat E.sz, c - a.toNat, (xs.take b.toNat).drop a.toNat, rfl, fun W => ?_, ?_⟩
  · rw [run_slice_lh W t A xs.length c hu .i64 .i64 a b h0 h1 (by omega), hz, List.length_drop, List.length_take]
    simp [sliced, Result.andThen, cutA]
    omega
  · exact h.cut a.toNat b.toNat c (by omega) (by omega) (by omega) (Nat.le_refl _)
/-- b[a:b:m] -/
theorem cut_three (w : World) (t e : TypeId) (ht : P.underlying t = some (.slice e)) (hs : (P.info? e).map (·.size) = some E.sz) (h : Rd E w A c xs) (a b m : Int) (h0 : 0 ≤ a) (h1 : a ≤ b) (h2 : b ≤ xs.length) (h3 : b ≤ m) (h4 : m ≤ c) :
    ∃ A' c' ys, Hid (ys = (xs.take b.toNat).drop a.toNat) ∧ (∀ W : World, (Instr.slice t (.slice A xs.length c) (some (.int .i64 a)) (some (.int .i64 b)) (some (.int .i64 m))).run P W = .ok (.slice A' ys.length c') W) ∧ Rd E w A' c' ys := by
  obtain ⟨hu, hz⟩ := info_cut ht hs
  have hc := h.1
  refine ⟨cutA A m.toNat a.toNat E.sz, m.toNat - a.toNat, (xs.take b.toNat).drop a.toNat, rfl, fun W => ?_, ?_⟩
  · rw [run_slice_lhm W t A xs.length c hu .i64 .i64 .i64 a b m h0 h1 h3 h4, hz, List.length_drop, List.length_take]
    simp [sliced, Result.andThen, cutA]
    omega
  · exact h.cut a.toNat b.toNat m.toNat (by omega) (by omega) (by omega) (by omega)
/-- b[:b:m] -/
theorem cut_hm (w : World) (t e : TypeId) (ht : P.underlying t = some (.slice e)) (hs : (P.info? e).map (·.size) = some E.sz) (h : Rd E w A c xs) (b m : Int) (h0 : 0 ≤ b) (h2 : b ≤ xs.length) (h3 : b ≤ m) (h4 : m ≤ c) :
    ∃ A' c' ys, Hid (ys = xs.take b.toNat) ∧ (∀ W : World, (Instr.slice t (.slice A xs.length c) none (some (.int .i64 b)) (some (.int .i64 m))).run P W = .ok (.slice A' ys.length c') W) ∧ Rd E w A' c' ys := by
  obtain ⟨hu, hz⟩ := info_cut ht hs
  have hc := h.1
  refine ⟨cutA A m.toNat 0 E.sz, m.toNat, xs.take b.toNat, rfl, fun W => ?_, ?_⟩
  · rw [run_slice_hm W t A xs.length c hu .i64 .i64 b m h0 h3 h4, hz, List.length_take]
    simp [sliced, Result.andThen, cutA]
    omega
  · have := h.cut 0 b.toNat m.toNat (by omega) (by omega) (by omega) (by omega)
    rwa [List.drop_zero, Nat.sub_zero] at this
end

/-! ### a slice of the call's own -/
def Own {α : Type} (E : Enc α) (e : TypeId) (w : World) (base : Nat) (v : Value) (xs : List α) : Prop := w.ownsRow base e E.sz v xs.length (E.all xs)
section
variable {α : Type} {E : Enc α} {e : TypeId} {w w' : World} {base : Nat} {v : Value} {xs : List α}
theorem Own.nil (E : Enc α) (e : TypeId) (w : World) (base : Nat) : Own E e w base (.slice none 0 0) [] := World.ownsRow_nil _ _ _ _
theorem Own.ex (h : Own E e w base v xs) (hx : Ex w w') : Own E e w' base v xs := World.ownsRow.kept h (hx.gb none) (by cases v.ownBlock <;> simp)
theorem Own.gb (h : Own E e w base v xs) {row : Option Nat} (hg : w.grownBy w' row) (hne : v.ownBlock = none ∨ v.ownBlock ≠ row) : Own E e w' base v xs := World.ownsRow.kept h hg hne
theorem Own.lt (h : Own E e w base v xs) : ∀ k, v.ownBlock = some k → base ≤ k ∧ k < w.heap.size := World.ownsRow.lt h
theorem Own.lower (h : Own E e w base v xs) {b : Nat} (hb : b ≤ base) : Own E e w b v xs := by
  obtain ⟨h1, h2⟩ := h
  refine ⟨h1, ?_⟩
  rcases h2 with h2 | ⟨g, cap, cur, hv, hg, r⟩
  · exact .inl h2
  · exact .inr ⟨g, cap, cur, hv, Nat.le_trans hb hg, r⟩
theorem Own.rd (h : Own E e w base v xs) : ∃ A c, v = .slice A xs.length c ∧ Rd E w A c xs := by
  have hl := h
  rcases h.2 with ⟨rfl, h0⟩ | ⟨g, cap, cur, rfl, hb, hg, hn, hm, _⟩
  · obtain rfl : xs = [] := List.eq_nil_of_length_eq_zero h0
    exact ⟨none, 0, rfl, Rd.nil _ _ _ _⟩
  · refine ⟨_, cap, rfl, hn, by simp only [maxLen] at hm; omega, fun hp => ⟨_, rfl, (Array.getElem?_eq_some_iff.1 hg).1, fun j x hj i u hu => ?_⟩⟩
    exact World.ownsRow.cells hl (g := g) rfl _ _ (Enc.all_get E xs j x i u hj hu)
theorem Own.ne_type {β : Type} {F : Enc β} {f : TypeId} {u : Value} {ys : List β} {b : Nat} (h : Own E e w base v xs) (k : Own F f w b u ys) (hne : e ≠ f) : v.ownBlock = none ∨ v.ownBlock ≠ u.ownBlock := by
  rcases h.2 with ⟨rfl, _⟩ | ⟨g, cap, cur, rfl, _, hh, _⟩
  · exact .inl rfl
  · refine .inr fun hk => ?_
    rcases k.2 with ⟨rfl, _⟩ | ⟨g', cap', cur', rfl, _, hh', _⟩
    · simp [Value.ownBlock] at hk
    · have : g = g' := by simpa [Value.ownBlock] using hk
      subst this
      rw [hh] at hh'
      injection hh' with hh'
      injection hh' with _ ht
      exact hne ht
theorem Own.lit (w : World) (base : Nat) (xs : List α) (hb : base ≤ w.heap.size) (hn : xs.length ≤ 140737488355328) : Own E e (w.alloc (.cells (E.all xs).toArray e)) base (.slice (some ⟨w.heap.size, 0, none⟩) xs.length xs.length) xs := by
  have h := World.ownsRow_lit (base := base) (e := e) (size := E.sz) w (E.all xs).toArray xs.length hb (by simp only [maxLen]; omega) (by simp [Enc.all_len])
  simpa [Own] using h
end
/-- What an appender leaves: the row, the one block that it may have written, where the row lies now. -/
structure App {α : Type} (E : Enc α) (e : TypeId) (base : Nat) (w : World) (v : Value) (w' : World) (v1 : Value) (ys : List α) : Prop where
  own : Own E e w' base v1 ys
  gb : w.grownBy w' v.ownBlock
  at_ : v1.ownBlock = v.ownBlock ∨ ∃ b, v1.ownBlock = some b ∧ w.heap.size ≤ b
section
variable {α : Type} {E : Enc α} {e : TypeId} {base : Nat} {w w1 w2 : World} {v v1 v2 : Value} {xs ys : List α}
theorem App.refl (h : Own E e w base v xs) : App E e base w v w v xs := ⟨h, gb_refl _ _, .inl rfl⟩
theorem App.trans (h : App E e base w v w1 v1 xs) (k : App E e base w1 v1 w2 v2 ys) : App E e base w v w2 v2 ys := by
  refine ⟨k.own, gb_trans h.gb k.gb (fun i hi => ?_), ?_⟩
  · rcases h.at_ with h1 | ⟨b, h1, h2⟩
    · exact .inl (h1 ▸ hi)
    · rw [h1] at hi; cases hi; exact .inr h2
  · rcases k.at_ with h1 | ⟨b, h1, h2⟩
    · rw [h1]; exact h.at_
    · exact .inr ⟨b, h1, Nat.le_trans h.gb.size h2⟩
theorem App.ex {w0 : World} (h : App E e base w v w1 v1 xs) (hx : Ex w0 w) (hb : ∀ k, v.ownBlock = some k → w0.heap.size ≤ k) : Ex w0 w1 := hx.grown h.gb hb
theorem App.alloc (h : App E e base w v w1 v1 xs) (o : Obj) : App E e base w v (w1.alloc o) v1 xs := ⟨h.own.ex ((Ex.refl _).alloc _), gb_alloc h.gb _, h.at_⟩
theorem App.cell (h : App E e base w v w1 v1 xs) {p : Addr} {u : Value} (hc : w.cell? p = some u) (hne : ∀ k, v.ownBlock = some k → k ≠ p.block) : w1.cell? p = some u := h.gb.cell hc (fun e => hne _ e.symm rfl)
theorem App.ne (h : App E e base w v w1 v1 xs) {n : Nat} (hn : n < w.heap.size) (hne : ∀ k, v.ownBlock = some k → k ≠ n) : ∀ k, v1.ownBlock = some k → k ≠ n := by
  intro k hk
  rcases h.at_ with h1 | ⟨b, h1, h2⟩
  · exact hne k (h1 ▸ hk)
  · rw [h1] at hk; cases hk; omega
/-- Another row of the call's own, of another type, lives on. -/
theorem App.keep {β : Type} {F : Enc β} {f : TypeId} {b : Nat} {u : Value} {zs : List β} (h : App E e base w v w1 v1 xs) (k : Own F f w b u zs) (hne : u.ownBlock = none ∨ u.ownBlock ≠ v.ownBlock) : Own F f w1 b u zs := k.gb h.gb hne
theorem App.rd {β : Type} {F : Enc β} {A : Option Addr} {c : Nat} {zs : List β} (h : App E e base w v w1 v1 xs) (hr : Rd F w A c zs) (hne : ∀ a, A = some a → v.ownBlock ≠ some a.block) : Rd F w1 A c zs := hr.grown h.gb hne
end
section
variable {α : Type} {E : Enc α} {P : Program} {ops : Array Oper} {rest : List Oper} {o : Oper} {a : Act} {Q : Exit → Act → World → Prop}
theorem gate_bi {w : World} {b : Builtin} {xs : Array Operand} {ts : Array TypeId} (_ho : o.op = .call { callee := .builtin b, args := xs, argTypes := ts }) (h : wpList P ops Q (o :: rest) a w) : wpList P ops Q (o :: rest) a w := h
/-- append, its run at hand. -/
theorem run_append_step {W w1 : World} {v1 : Value} (hgd : o.guard = none) (s x : Operand) (ts : Array TypeId) (ho : o.op = .call { callee := .builtin .append, args := #[s, x], argTypes := ts })
    (vs vx : Value) (hs : a.eval s = vs) (hx : a.eval x = vx) (h1 : (Builtin.append_ ts o.type #[vs, vx]).run P W = .ok v1 w1) (h : wpList P ops Q rest (a.put o.dst v1) w1) : wpList P ops Q (o :: rest) a W := by
  refine wpList_plain hgd fun K hK => ?_
  unfold Oper.wp execOp
  simp only [ho, resolve, invoke, builtin, Sem.run_bind, Sem.run_pure, Result.andThen_ok, List.map_toArray, List.map_cons, List.map_nil, hs, hx, h1]
  exact hK _ _ h
/-- append(v, x), one element: behind the variadic's new block. -/
theorem own_app1 {W : World} (E : Enc α) (base : Nat) (hgd : o.guard = none) (s x : Operand) (t e : TypeId) (z : Value) (bytes : Nat)
    (ho : o.op = .call { callee := .builtin .append, args := #[s, x], argTypes := #[t, t] })
    (ht : P.underlying t = some (.slice e)) (hinfo : (P.info? e).map (fun i => (i.zero, i.size, i.bytes)) = some (some z, E.sz, bytes)) (hz : z.cells.size = E.sz) (hb0 : 0 < bytes)
    (v : Value) (xs : List α) (y : α) (C : Array Value) (hs : a.eval s = v) (hx : a.eval x = .slice (some ⟨W.heap.size, 0, none⟩) 1 1) (hC : C = (E.cs y).toArray)
    (HO : Own E e W base v xs) (hbase : base ≤ W.heap.size) (hl : (xs.length + 1) * bytes ≤ 140737488355328)
    (h : ∀ v1 w1, Own E e w1 base v1 (xs ++ [y]) → W.grownBy w1 v.ownBlock → (v1.ownBlock = v.ownBlock ∨ ∃ b, v1.ownBlock = some b ∧ W.heap.size ≤ b) → wpList P ops Q rest (a.put o.dst v1) w1) :
    wpList P ops Q (o :: rest) a (W.alloc (.cells C e)) := by
  subst hC
  obtain ⟨i0, hi, hzz⟩ := Option.map_eq_some_iff.1 hinfo
  simp only [Prod.mk.injEq] at hzz
  obtain ⟨hz0, hz1, hz2⟩ := hzz
  have hlen : xs.length + 1 ≤ 140737488355328 := Nat.le_trans (Nat.le_mul_of_pos_right _ hb0) hl
  refine wpList_append_own_at (W.alloc (.cells (E.cs y).toArray e)) hgd s x t ho base e i0 z E.sz bytes ht hi hz0 hz1 hz2 hz E.pos v xs.length (E.all xs) hs (World.ownsRow.alloc HO _) ⟨W.heap.size, 0, none⟩ 1 1 (E.cs y) hx (by rw [E.len, Nat.one_mul])
    (by simpa using World.news_of_block (cs := (E.cs y).toArray) (t := e) (fr := (0, 0)) (heap_alloc_new W (.cells (E.cs y).toArray e))) (E.one y) (by simp only [maxLen]; omega) hl (by simp; omega) ?_
  intro v1 w1 hown hg _ hat
  refine h v1 w1 (by unfold Own; rw [Enc.all_append, List.length_append]; simpa [Enc.all] using hown) (World.grownBy.trans (World.grownBy_alloc W _ _) hg) ?_
  rcases hat with hat | hat
  · exact .inl hat
  · exact .inr ⟨_, hat, by simp⟩
/-- append(v, ys...), ys a slice that is read. -/
theorem run_appR {W : World} (E : Enc α) (base : Nat) (t e : TypeId) (z : Value) (bytes : Nat)
    (ht : P.underlying t = some (.slice e)) (hinfo : (P.info? e).map (fun i => (i.zero, i.size, i.bytes)) = some (some z, E.sz, bytes)) (hz : z.cells.size = E.sz) (hb0 : 0 < bytes)
    (v : Value) (xs ys : List α) (A : Option Addr) (c : Nat)
    (HO : Own E e W base v xs) (hr : Rd E W A c ys) (hbase : base ≤ W.heap.size) (hl : (xs.length + ys.length) * bytes ≤ 140737488355328) (tt : TypeId) :
    ∃ v1 w1, (Builtin.append_ #[t, t] tt #[v, .slice A ys.length c]).run P W = .ok v1 w1 ∧ Own E e w1 base v1 (xs ++ ys) ∧ W.grownBy w1 v.ownBlock ∧ (v1.ownBlock = v.ownBlock ∨ v1.ownBlock = some W.heap.size) := by
  obtain ⟨i0, hi, hzz⟩ := Option.map_eq_some_iff.1 hinfo
  simp only [Prod.mk.injEq] at hzz
  obtain ⟨hz0, hz1, hz2⟩ := hzz
  have hlen : xs.length + ys.length ≤ 140737488355328 := Nat.le_trans (Nat.le_mul_of_pos_right _ hb0) hl
  have key : ∃ v1 w1, (Builtin.append_ #[t, t] tt #[v, .slice A ys.length c]).run P W = .ok v1 w1 ∧ Own E e w1 base v1 (xs ++ ys) ∧ W.grownBy w1 v.ownBlock ∧ (v1.ownBlock = v.ownBlock ∨ v1.ownBlock = some W.heap.size) := by
    by_cases h0 : ys.length = 0
    · obtain rfl : ys = [] := List.eq_nil_of_length_eq_zero h0
      refine ⟨v, W, ?_, by rw [List.append_nil]; exact HO, gb_refl _ _, .inl rfl⟩
      rcases HO.2 with ⟨rfl, _⟩ | ⟨g, cap, cur, rfl, _, _, hnc, _⟩
      · cases A <;> simp [Builtin.append_, run_underlying ht, sizeOf, typeInfo, hi, Builtin.lenOf, Builtin.firstCells, storeCells, loadCells, loadCellsFrom]
      · cases A <;> simp [Builtin.append_, run_underlying ht, sizeOf, typeInfo, hi, Builtin.lenOf, Builtin.firstCells, hnc, storeCells, loadCells, loadCellsFrom]
    · obtain ⟨ad, rfl, _, hc⟩ := hr.2.2 (by omega)
      obtain ⟨v1, w1, h1, h2, h3, _, h5⟩ := run_append_own_at (P := P) W base t tt e i0 z E.sz bytes ht hi hz0 hz1 hz2 hz E.pos v xs.length (E.all xs) HO ad ys.length c (E.all ys) (Enc.all_len E ys)
        (fun j u hu => by
          have hlt := (List.getElem?_eq_some_iff.1 hu).1
          rw [Enc.all_len] at hlt
          have hq : j / E.sz < ys.length := Nat.div_lt_of_lt_mul (by rwa [Nat.mul_comm])
          have hdm := Nat.div_add_mod j E.sz
          have hmod := Nat.mod_lt j E.pos
          have hu2 : (E.cs ys[j / E.sz])[j % E.sz]? = some ((E.cs ys[j / E.sz])[j % E.sz]'(by rw [E.len]; exact hmod)) := List.getElem?_eq_getElem _
          have h3 := Enc.all_get E ys (j / E.sz) _ (j % E.sz) _ (List.getElem?_eq_getElem hq) hu2
          have hj : j / E.sz * E.sz + j % E.sz = j := by rw [Nat.mul_comm]; exact hdm
          rw [hj] at h3
          have h4 := hc (j / E.sz) _ (List.getElem?_eq_getElem hq) (j % E.sz) _ hu2
          rw [hj] at h4
          rw [h4, ← h3, hu])
        (Enc.all_one E ys) (by simp only [maxLen]; omega) hl hbase
      exact ⟨v1, w1, h1, by unfold Own; rw [Enc.all_append, List.length_append]; exact h2, h3, h5⟩
  exact key
theorem own_appR {W : World} (E : Enc α) (base : Nat) (hgd : o.guard = none) (s x : Operand) (t e : TypeId) (z : Value) (bytes : Nat)
    (ho : o.op = .call { callee := .builtin .append, args := #[s, x], argTypes := #[t, t] })
    (ht : P.underlying t = some (.slice e)) (hinfo : (P.info? e).map (fun i => (i.zero, i.size, i.bytes)) = some (some z, E.sz, bytes)) (hz : z.cells.size = E.sz) (hb0 : 0 < bytes)
    (v : Value) (xs ys : List α) (A : Option Addr) (c : Nat) (hs : a.eval s = v) (hx : a.eval x = .slice A ys.length c)
    (HO : Own E e W base v xs) (hr : Rd E W A c ys) (hbase : base ≤ W.heap.size) (hl : (xs.length + ys.length) * bytes ≤ 140737488355328)
    (h : ∀ v1 w1, Own E e w1 base v1 (xs ++ ys) → W.grownBy w1 v.ownBlock → (v1.ownBlock = v.ownBlock ∨ v1.ownBlock = some W.heap.size) → wpList P ops Q rest (a.put o.dst v1) w1) :
    wpList P ops Q (o :: rest) a W := by
  obtain ⟨v1, w1, h1, h2, h3, h4⟩ := run_appR (P := P) (W := W) E base t e z bytes ht hinfo hz hb0 v xs ys A c HO hr hbase hl o.type
  exact run_append_step hgd s x #[t, t] ho v _ hs hx h1 (h v1 w1 h2 h3 h4)
/-- The same inside a region whose order is drawn. -/
theorem own_appR_h {W : World} {K : Act → World → Prop} (E : Enc α) (base : Nat) (hgd : o.guard = none) (s x : Operand) (t e : TypeId) (z : Value) (bytes : Nat)
    (ho : o.op = .call { callee := .builtin .append, args := #[s, x], argTypes := #[t, t] })
    (ht : P.underlying t = some (.slice e)) (hinfo : (P.info? e).map (fun i => (i.zero, i.size, i.bytes)) = some (some z, E.sz, bytes)) (hz : z.cells.size = E.sz) (hb0 : 0 < bytes)
    (v : Value) (xs ys : List α) (A : Option Addr) (c : Nat) (hs : a.eval s = v) (hx : a.eval x = .slice A ys.length c)
    (HO : Own E e W base v xs) (hr : Rd E W A c ys) (hbase : base ≤ W.heap.size) (hl : (xs.length + ys.length) * bytes ≤ 140737488355328)
    (h : ∀ v1 w1, App E e base W v w1 v1 (xs ++ ys) → K (a.put o.dst v1) w1) :
    if Region.wanted o (yielded ops a.tmps) = true then Oper.wp P o a W K Q else K (a.put o.dst undef) W := by
  obtain ⟨v1, w1, h1, h2, h3, h4⟩ := run_appR (P := P) (W := W) E base t e z bytes ht hinfo hz hb0 v xs ys A c HO hr hbase hl o.type
  rw [if_pos (by simp only [Region.wanted, hgd])]
  unfold Oper.wp execOp
  simp only [ho, resolve, invoke, builtin, Sem.run_bind, Sem.run_pure, Result.andThen_ok, List.map_toArray, List.map_cons, List.map_nil, hs, hx, h1]
  exact h _ _ ⟨h2, h3, by rcases h4 with h4 | h4; exact .inl h4; exact .inr ⟨_, h4, Nat.le_refl _⟩⟩
end

/-! ### slices of byte slices -/
def Inn (w : World) (b : Option Nat) (s : SlV) (xs : List UInt8) : Prop := s.n = xs.length ∧ Rd eB w s.A s.c xs ∧ (0 < xs.length → ∀ a, s.A = some a → some a.block ≠ b)
theorem Inn.ex {w w' : World} {b : Option Nat} {s : SlV} {xs : List UInt8} (h : Inn w b s xs) (hx : Ex w w') : Inn w' b s xs := ⟨h.1, h.2.1.ex hx, h.2.2⟩
theorem Inn.grown {w w' : World} {b : Option Nat} {s : SlV} {xs : List UInt8} (h : Inn w b s xs) (hg : w.grownBy w' b) : Inn w' b s xs := by
  obtain ⟨h1, h2, h3⟩ := h
  rcases Nat.eq_zero_or_pos xs.length with h0 | h0
  · obtain rfl : xs = [] := List.eq_nil_of_length_eq_zero h0
    exact ⟨h1, Rd.nil _ _ _ _, h3⟩
  · exact ⟨h1, h2.grown hg (fun a ha e => h3 h0 a ha e.symm), h3⟩
theorem Inn.other {w : World} {b : Option Nat} {s : SlV} {xs : List UInt8} (h : Inn w b s xs) {b' : Option Nat} (hb : b' = b ∨ ∃ k, b' = some k ∧ w.heap.size ≤ k) : Inn w b' s xs := by
  refine ⟨h.1, h.2.1, fun h0 a ha => ?_⟩
  rcases hb with rfl | ⟨k, rfl, hk⟩
  · exact h.2.2 h0 a ha
  · obtain ⟨ad, e, hlt, _⟩ := h.2.1.2.2 h0
    rw [e] at ha; injection ha with ha; subst ha
    intro e2; injection e2 with e2; omega
/-- A slice of byte slices that is read. -/
def RdS (w : World) (A : Option Addr) (c : Nat) (xss : List (List UInt8)) : Prop := ∃ ss : List SlV, ss.length = xss.length ∧ Rd eS w A c ss ∧ ∀ (j : Nat) (s : SlV) (xs : List UInt8), ss[j]? = some s → xss[j]? = some xs → s.n = xs.length ∧ Rd eB w s.A s.c xs
theorem RdS.ex {w w' : World} {A : Option Addr} {c : Nat} {xss : List (List UInt8)} (h : RdS w A c xss) (hx : Ex w w') : RdS w' A c xss := by
  obtain ⟨ss, h1, h2, h3⟩ := h
  exact ⟨ss, h1, h2.ex hx, fun j s xs hs hxs => ⟨(h3 j s xs hs hxs).1, (h3 j s xs hs hxs).2.ex hx⟩⟩
theorem RdS.len {w : World} {A : Option Addr} {c : Nat} {xss : List (List UInt8)} (h : RdS w A c xss) : xss.length ≤ c ∧ xss.length ≤ 9223372036854775807 := by
  obtain ⟨ss, h1, h2, h3⟩ := h
  rw [← h1]; exact ⟨h2.1, h2.2.1⟩
theorem RdS.at_ {w : World} {A : Option Addr} {c : Nat} {xss : List (List UInt8)} (h : RdS w A c xss) {j : Nat} (hj : j < xss.length) : ∃ ad A' c', A = some ad ∧ w.cell? (ad.add j) = some (.slice A' xss[j].length c') ∧ Rd eB w A' c' xss[j] := by
  obtain ⟨ss, h1, h2, h3⟩ := h
  have hj' : j < ss.length := by omega
  obtain ⟨ad, e, hc⟩ := h2.at1 (u := .slice ss[j].A ss[j].n ss[j].c) rfl hj' rfl
  obtain ⟨g1, g2⟩ := h3 j ss[j] xss[j] (List.getElem?_eq_getElem hj') (List.getElem?_eq_getElem hj)
  exact ⟨ad, ss[j].A, ss[j].c, e, by rw [← g1]; exact hc, g2⟩
/-- A literal. -/
theorem RdS.lit (w : World) (e : TypeId) (ss : List SlV) (xss : List (List UInt8)) (hl : ss.length = xss.length) (hn : ss.length ≤ 140737488355328)
    (h : ∀ (j : Nat) (s : SlV) (xs : List UInt8), ss[j]? = some s → xss[j]? = some xs → s.n = xs.length ∧ Rd eB w s.A s.c xs) :
    RdS (w.alloc (.cells (eS.all ss).toArray e)) (some ⟨w.heap.size, 0, none⟩) xss.length xss := by
  obtain ⟨A, c, he, hr⟩ := (Own.lit (E := eS) (e := e) w w.heap.size ss (Nat.le_refl _) hn).rd
  cases he
  refine ⟨ss, hl, by rw [← hl]; exact hr, fun j s xs hs hxs => ?_⟩
  have := h j s xs hs hxs
  exact ⟨this.1, this.2.ex ((Ex.refl w).alloc _)⟩
theorem RdS.lit3 (w : World) (e : TypeId) {A1 A2 A3 : Option Addr} {c1 c2 c3 : Nat} {x1 x2 x3 : List UInt8} (h1 : Rd eB w A1 c1 x1) (h2 : Rd eB w A2 c2 x2) (h3 : Rd eB w A3 c3 x3) :
    RdS (w.alloc (.cells #[.slice A1 x1.length c1, .slice A2 x2.length c2, .slice A3 x3.length c3] e)) (some ⟨w.heap.size, 0, none⟩) 3 [x1, x2, x3] := by
  refine RdS.lit w e [⟨A1, x1.length, c1⟩, ⟨A2, x2.length, c2⟩, ⟨A3, x3.length, c3⟩] [x1, x2, x3] rfl (by simp) (fun j s xs hs hxs => ?_)
  match j, hs, hxs with
  | 0, hs, hxs => cases hs; cases hxs; exact ⟨rfl, h1⟩
  | 1, hs, hxs => cases hs; cases hxs; exact ⟨rfl, h2⟩
  | 2, hs, hxs => cases hs; cases hxs; exact ⟨rfl, h3⟩
/-- Some of them. -/
theorem RdS.cut {w : World} {A : Option Addr} {c : Nat} {xss : List (List UInt8)} (h : RdS w A c xss) (t e : TypeId) {P : Program} (ht : P.underlying t = some (.slice e)) (hs : (P.info? e).map (·.size) = some 1) (a b : Nat) (hab : a ≤ b) (hb : b ≤ xss.length) :
    ∃ A' c' yss, Hid (yss = (xss.take b).drop a) ∧ RdS w A' c' yss ∧
      (a = 0 → ∀ k : Int, k = b → ∀ W : World, (Instr.slice t (.slice A xss.length c) none (some (.int .i64 k)) none).run P W = .ok (.slice A' yss.length c') W) ∧
      (b = xss.length → ∀ k : Int, k = a → ∀ W : World, (Instr.slice t (.slice A xss.length c) (some (.int .i64 k)) none none).run P W = .ok (.slice A' yss.length c') W) := by
  obtain ⟨ss, h1, h2, h3⟩ := h
  obtain ⟨hu, hz⟩ := info_cut ht hs
  have hc := h2.1
  have hl : ((xss.take b).drop a).length = b - a := by rw [List.length_drop, List.length_take]; omega
  refine ⟨cutA A c a 1, c - a, (xss.take b).drop a, rfl, ⟨(ss.take b).drop a, by simp only [List.length_drop, List.length_take, h1], h2.cut a b c hab (by omega) (by omega) (Nat.le_refl _), fun j s xs hs hxs => ?_⟩, fun ha k hk W => ?_, fun hb' k hk W => ?_⟩
  · rw [List.getElem?_drop, List.getElem?_take] at hs hxs
    split at hs
    · rename_i hj
      rw [if_pos hj] at hxs
      exact h3 _ _ _ hs hxs
    · cases hs
  · subst ha hk
    rw [run_slice_h W t A xss.length c hu .i64 _ (by omega) (by omega), hz, hl]
    simp [sliced, Result.andThen, cutA]
  · subst hk
    rw [run_slice_l W t A xss.length c hu .i64 _ (by omega) (by omega), hz, hl, hb']
    simp [sliced, Result.andThen, cutA]
/-- A slice of byte slices of the call's own; what its elements lead to lies elsewhere. -/
def OwnS (e : TypeId) (w : World) (base : Nat) (v : Value) (xss : List (List UInt8)) : Prop := ∃ ss : List SlV, ss.length = xss.length ∧ Own eS e w base v ss ∧ ∀ (j : Nat) (s : SlV) (xs : List UInt8), ss[j]? = some s → xss[j]? = some xs → Inn w v.ownBlock s xs
section
variable {e : TypeId} {w w' : World} {base : Nat} {v : Value} {xss : List (List UInt8)}
theorem OwnS.nil (e : TypeId) (w : World) (base : Nat) : OwnS e w base (.slice none 0 0) [] := ⟨[], rfl, Own.nil _ _ _ _, fun j s xs h => by simp at h⟩
theorem OwnS.ex (h : OwnS e w base v xss) (hx : Ex w w') : OwnS e w' base v xss := by
  obtain ⟨ss, h1, h2, h3⟩ := h
  exact ⟨ss, h1, h2.ex hx, fun j s xs hs hxs => (h3 j s xs hs hxs).ex hx⟩
theorem OwnS.rd (h : OwnS e w base v xss) : ∃ A c, v = .slice A xss.length c ∧ RdS w A c xss := by
  obtain ⟨ss, h1, h2, h3⟩ := h
  obtain ⟨A, c, rfl, hr⟩ := h2.rd
  exact ⟨A, c, by rw [h1], ss, h1, hr, fun j s xs hs hxs => ⟨(h3 j s xs hs hxs).1, (h3 j s xs hs hxs).2.1⟩⟩
theorem OwnS.lower (h : OwnS e w base v xss) {b : Nat} (hb : b ≤ base) : OwnS e w b v xss := by
  obtain ⟨ss, h1, h2, h3⟩ := h
  exact ⟨ss, h1, h2.lower hb, h3⟩
theorem OwnS.lt (h : OwnS e w base v xss) : ∀ k, v.ownBlock = some k → base ≤ k ∧ k < w.heap.size := by
  obtain ⟨ss, h1, h2, h3⟩ := h
  exact h2.lt
/-- Behind an append of elements that lie elsewhere. -/
theorem OwnS.app {w1 : World} {v1 : Value} {ss ts : List SlV} {yss : List (List UInt8)} (hl : ss.length = xss.length) (h3 : ∀ (j : Nat) (s : SlV) (xs : List UInt8), ss[j]? = some s → xss[j]? = some xs → Inn w v.ownBlock s xs)
    (hl' : ts.length = yss.length) (h4 : ∀ (j : Nat) (s : SlV) (xs : List UInt8), ts[j]? = some s → yss[j]? = some xs → Inn w v.ownBlock s xs) (h : Own eS e w1 base v1 (ss ++ ts)) (hg : w.grownBy w1 v.ownBlock) (hat : v1.ownBlock = v.ownBlock ∨ ∃ b, v1.ownBlock = some b ∧ w.heap.size ≤ b) : OwnS e w1 base v1 (xss ++ yss) := by
  refine ⟨ss ++ ts, by simp [hl, hl'], h, fun j s xs hs hxs => ?_⟩
  have key : Inn w v.ownBlock s xs := by
    rcases Nat.lt_or_ge j ss.length with hj | hj
    · rw [List.getElem?_append_left hj] at hs
      rw [List.getElem?_append_left (by omega)] at hxs
      exact h3 j s xs hs hxs
    · rw [List.getElem?_append_right hj] at hs
      rw [List.getElem?_append_right (by omega), ← hl] at hxs
      exact h4 _ s xs hs hxs
  have k2 := key.grown hg
  refine ⟨k2.1, k2.2.1, fun h0 a ha => ?_⟩
  rcases hat with hat | ⟨b, hb, hk⟩
  · rw [hat]; exact key.2.2 h0 a ha
  · obtain ⟨ad, e, hlt, _⟩ := key.2.1.2.2 h0
    rw [e] at ha; injection ha with ha; subst ha
    rw [hb]; intro e2; injection e2 with e2; omega
end
/-- append(v, d), d bytes that are read and lie elsewhere. -/
theorem ownS_app1 {P : Program} {ops : Array Oper} {rest : List Oper} {o : Oper} {a : Act} {Q : Exit → Act → World → Prop} {W : World} (base : Nat) (hgd : o.guard = none) (s x : Operand) (t e : TypeId)
    (ho : o.op = .call { callee := .builtin .append, args := #[s, x], argTypes := #[t, t] })
    (ht : P.underlying t = some (.slice e)) (hinfo : (P.info? e).map (fun i => (i.zero, i.size, i.bytes)) = some (some (.slice none 0 0), 1, 24))
    (v : Value) (xss : List (List UInt8)) (A : Option Addr) (c : Nat) (d : List UInt8) (hs : a.eval s = v) (hx : a.eval x = .slice (some ⟨W.heap.size, 0, none⟩) 1 1)
    (HO : OwnS e W base v xss) (hd : Rd eB W A c d) (hne : 0 < d.length → ∀ a, A = some a → some a.block ≠ v.ownBlock) (hbase : base ≤ W.heap.size) (hl : xss.length ≤ 4000000000000)
    (h : ∀ v1 w1, OwnS e w1 base v1 (xss ++ [d]) → W.grownBy w1 v.ownBlock → (v1.ownBlock = v.ownBlock ∨ ∃ b, v1.ownBlock = some b ∧ W.heap.size ≤ b) → wpList P ops Q rest (a.put o.dst v1) w1) :
    wpList P ops Q (o :: rest) a (W.alloc (.cells #[.slice A d.length c] e)) := by
  obtain ⟨ss, h1, h2, h3⟩ := HO
  refine own_app1 eS base hgd s x t e (.slice none 0 0) 24 ho ht hinfo rfl (by decide) v ss ⟨A, d.length, c⟩ _ hs hx rfl h2 hbase (by omega) ?_
  intro v1 w1 ho1 hg1 ha1
  exact h v1 w1 (OwnS.app h1 h3 (ts := [⟨A, d.length, c⟩]) (yss := [d]) rfl (fun j s xs hs hxs => by
    match j, hs, hxs with
    | 0, hs, hxs => cases hs; cases hxs; exact ⟨rfl, hd, hne⟩) ho1 hg1 ha1) hg1 ha1
/-- What was made later than a row lies elsewhere. -/
theorem later_ne {w w1 : World} {f : TypeId} {v u : Value} {A : Option Addr} {n c : Nat} {xs : List UInt8} (h : Own eB f w1 w.heap.size u xs) (hu : u = .slice A n c) (hv : ∀ k, v.ownBlock = some k → k < w.heap.size) : ∀ a, A = some a → some a.block ≠ v.ownBlock := by
  intro a ha e
  subst hu; subst ha
  have := (h.lt a.block rfl).1
  have := hv a.block e.symm
  omega
/-- One that was made later than the row. -/
theorem Inn.of_own {w : World} {f : TypeId} {b : Nat} {v : Value} {xs : List UInt8} (h : Own eB f w b v xs) {r : Option Nat} (hr : r = none ∨ v.ownBlock ≠ r) : ∃ s : SlV, v = .slice s.A xs.length s.c ∧ v = .slice s.A s.n s.c ∧ Inn w r s xs := by
  obtain ⟨A, c, rfl, hrd⟩ := h.rd
  refine ⟨⟨A, xs.length, c⟩, rfl, rfl, rfl, hrd, fun _ a ha => ?_⟩
  rcases hr with rfl | hr
  · simp
  · cases ha; simpa [Value.ownBlock] using hr

/-! ### a call of a function value -/
/-- f is a function of the program with a text of its own. -/
def Fv (P : Program) (f : FuncId) : Prop := ∃ fn, P.funcs[f]? = some fn ∧ (fn.name == "runtime.NumGoroutine") = false ∧ fn.body.isSome = true
section
variable {P : Program} {ops : Array Oper} {rest : List Oper} {o : Oper} {a : Act} {Q : Exit → Act → World → Prop} {w : World}
theorem gate_val {x : Operand} {ps : Array Operand} {ts : Array TypeId} (_ho : o.op = .call { callee := .value x, args := ps, argTypes := ts }) (h : wpList P ops Q (o :: rest) a w) : wpList P ops Q (o :: rest) a w := h
theorem enters {f : FuncId} (hf : Fv P f) (args : Array Value) (w : World) : (callFunc f args).run P w = .ok (.enter f args) w := by
  obtain ⟨fn, hf, hname, hb⟩ := hf
  have h1 : fn.name ≠ "runtime.NumGoroutine" := by simpa using hname
  obtain ⟨c, hc⟩ := Option.isSome_iff_exists.1 hb
  simp [callFunc, hf, h1, hc]
theorem callv {f : FuncId} (hf : Fv P f) (caps args : Array Value) (hg : o.guard = none) (x : Operand) (ps : Array Operand) (ts : Array TypeId) (hop : o.op = .call { callee := .value x, args := ps, argTypes := ts })
    (hx : a.eval x = .func (.func f) #[] caps) (hargl : ps.toList.map a.eval ++ caps.toList = args.toList)
    (h : Calls P f args w fun e w' => ∃ v, e = .returned v ∧ wpList P ops Q rest (a.put o.dst v) w') : wpList P ops Q (o :: rest) a w := by
  refine wpList_plain hg fun K hK => ?_
  have hargs : ps.map a.eval ++ caps = args := by
    apply Array.toList_inj.1
    rw [Array.toList_append, Array.toList_map]
    exact hargl
  have he := enters hf args w
  have hrun : (execOp a.eval o).run P w = .ok (.enter f args) w := by
    unfold execOp
    simp only [hop, resolve, hx, Deferred.ofValue, Sem.run_bind, Sem.run_pure, Result.andThen_ok, invoke, Array.empty_append, hargs, he]
  unfold Oper.wp
  rw [hrun, Oper.upon_enter]
  refine h.mono fun e w'' hh => ?_
  obtain ⟨v, rfl, hk⟩ := hh
  exact hK _ _ hk
end

/-! ### regions that draw their order, whose operations read, call what only makes memory, and yield values that hang on no world -/
theorem quiet_left {P : Program} {f : FuncId} {args : Array Value} {w : World} {n : Nat} {v : Value}
    (h : Calls P f args (w.drewN n) fun e w' => e = .returned v ∧ w.drewN n = w') : Calls P f args (w.drewN n) fun e w'' => e = .returned v ∧ ∃ m, w'' = w.drewN m :=
  h.mono fun _ _ ⟨he, hm⟩ => ⟨he, n, hm.symm⟩
/-- A later world. -/
structure Lat (w : World) where
  w' : World
  ex : Ex w w'
instance (w : World) : Nonempty (Lat w) := ⟨⟨w, Ex.refl w⟩⟩
theorem wp_region_ex {P : Program} {id : Nat} {Q : Exit → Act → World → Prop} {a : Act} {w : World} {l : List Oper} (hm : P.follows .mixedOrders = true) (hB : Region.lexB .any l.toArray = true)
    (h : wpQuiet P l.toArray (fun w' => ∃ x : Lat w, w' = x.w') (fun a' => ∀ w', (∃ x : Lat w, w' = x.w') → Q .normal a' w') l a) : (Code.region id l.toArray true).wp P Q a w :=
  wp_region_quiet (C := fun w' => ∃ x : Lat w, w' = x.w') hm hB ⟨⟨w.drew, (Ex.refl w).drew⟩, rfl⟩ (by simpa using h)
theorem lat_call {P : Program} {f : FuncId} {args : Array Value} {w : World} {x : Lat w} {v : Value}
    (h : ∀ W, Ex w W → Calls P f args W fun e w' => e = .returned v ∧ Ex W w') : Calls P f args x.w' fun e w'' => e = .returned v ∧ ∃ y : Lat w, w'' = y.w' :=
  (h x.w' x.ex).mono fun _ _ ⟨he, hm⟩ => ⟨he, ⟨_, x.ex.trans hm⟩, rfl⟩
theorem lat_same {P : Program} {f : FuncId} {args : Array Value} {w : World} {x : Lat w} {v : Value}
    (h : ∀ W, Ex w W → Calls P f args W fun e w' => e = .returned v ∧ W = w') : Calls P f args x.w' fun e w'' => e = .returned v ∧ ∃ y : Lat w, w'' = y.w' :=
  (h x.w' x.ex).mono fun _ _ ⟨he, hm⟩ => ⟨he, x, hm.symm⟩
theorem lat_cell {w : World} {a : Addr} {v : Value} (h : w.cell? a = some v) : ∀ x : Lat w, x.w'.cell? a = some v := fun x => x.ex.cell h
end Go.Proofs.YtdghbnkegahdnaaGreat.B
