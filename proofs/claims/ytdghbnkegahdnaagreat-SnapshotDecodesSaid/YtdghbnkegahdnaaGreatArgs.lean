/- What an argument that can be read as data is: the facts of the walks; and the end of a law's proof: true is returned, and every block that was there is as it was. -/
import Derived.Test.YtdghbnkegahdnaaGreatAwk
import Derived.ProofKit
import Derived.Deep.Slices
import Derived.Deep.Fields
import Derived.ChangeSame
import Derived.WideKeyArgs
import Derived.ChangeCalls
import Derived.OpenShut
set_option linter.unusedVariables false
set_option linter.unusedSimpArgs false
set_option maxRecDepth 100000
namespace Go.Proofs.YtdghbnkegahdnaaGreat.B
open Go Go.RowKit Go.Proofs Go.WideShapes Go.ChangeShapes Go.ChangeAt

theorem laidOut : laidOutB Tryz.prog = true := by kernel_rfl
theorem own : ownKnob Tryz.prog.godebug = none := by kernel_rfl
section
variable {H : Type} {enc : TypeId × Value → H} {P : Program} {w : World}
/-- A reading of all arguments stands in every later world. -/
theorem all_stays (hl : laidOutB P = true) {W W' : World} {sp' : Nat → Bool} : ∀ {ts : List TypeId} {vs : List Value} {ds : List (DataW H)} {ps : List MemPlace}, (∀ t ∈ ts, P.readableRec t = true ∧ t < P.types.size) →
    DataW.TrodAll enc P W 0 (fun _ => true) true ts vs ds ps → (∀ p ∈ ps, W.sameAt W' p) → (∀ p ∈ ps, sp' p.block = true) → DataW.TrodAll enc P W' 0 sp' true ts vs ds ps
  | [], _, _, _, _, h, _, _ => by
    obtain ⟨rfl, rfl, rfl⟩ := trodAll_nil h
    exact trodAll_mk0
  | t :: ts, _, _, _, hr, h, hs, hp => by
    obtain ⟨v, vs1, d, ds1, a, b, rfl, rfl, rfl, h1, h2⟩ := trodAll_cons h
    have ht := hr t (by simp)
    exact ⟨a, b, WideElems.Trod_stays hl ht.1 ht.2 h1 (fun x hx => hs x (by simp [hx])) (fun x hx => hp x (by simp [hx])), all_stays hl (fun u hu => hr u (by simp [hu])) h2 (fun x hx => hs x (by simp [hx])) (fun x hx => hp x (by simp [hx])), rfl⟩
/-- What a law's row says, where the call answers true and leaves every block as it was. -/
theorem post_law {f : Func} {s : ChangeSpec} {apart fresh handsOn again : Bool} {W W' : World} {args : Array Value} {ds gs : List (DataW H)} {before : List MemPlace} {tb : TypeId} (hl : laidOutB P = true)
    (hvs : s.vars = []) (hread : ∀ t ∈ f.params.toList, P.readableRec t = true ∧ t < P.types.size) (hrt : f.resultTypes = #[tb]) (htb : P.underlying tb = some .bool)
    (hfn : ∀ ds : List (DataW H), ds.length = f.params.size → s.fn H ds = { results := [.lit (.bool true)], args := ds })
    (hW : DataW.Whole enc P f.params.toList s.vars apart W args.toList ds gs before) (hx : Ex W W') :
    s.post enc P f apart fresh handsOn again W args (.bool true) W' := by
  have hlt : ∀ p ∈ before, p.block < W.heap.size := fun p hp => hW.lt p hp
  have hW' := hW
  obtain ⟨p, q, hA, hV, hpq, hz, hn⟩ := hW'
  rw [hvs] at hV
  obtain ⟨rfl, rfl⟩ := trodVars_none hV
  rw [List.append_nil] at hpq
  subst hpq
  have hlen : ds.length = f.params.size := by
    have := (trodAll_length hA).2
    simpa using this
  have hfd := hfn ds hlen
  have hargs : ∀ sp : Nat → Bool, (∀ p ∈ before, sp p.block = true) → DataW.TrodAll enc P W' 0 sp true f.params.toList args.toList ds before := fun sp hsp =>
    all_stays hl hread hA (fun x hx' => Below.same hx (hlt x hx')) hsp
  have hres : ∀ (b : Nat) (sp : Nat → Bool) (hd : Bool), DataW.TrodAll enc P W' b sp hd f.resultTypes.toList ((Value.bool true).resultList f.resultTypes.size) [.lit (.bool true)] [] := fun b sp hd => by
    rw [hrt]
    exact trodAll_cons_mk (shut_bool htb _) trodAll_mk0
  have hold : ∀ p ∈ before, (fun b => decide (b < W.heap.size)) p.block = true := fun p hp => by simpa using hlt p hp
  refine ⟨ds, [], before, [], before, [], hW, by rw [List.append_nil, hfd]; exact hres _ _ _, by rw [List.append_nil, hfd]; exact hargs _ hold, by rw [hvs, List.append_nil, hfd]; rfl, World.keptBut_mono (fun p hp => ⟨hp, .inr (.inl hp)⟩) (Below.frame hx (· ∈ before)), fun _ => ?_⟩
  refine ⟨ok_one hrt rfl (okWide_bool_mk htb _), _, [], ([] ++ before) ++ [], ⟨[] ++ before, [], trodAll_append (hargs _ (fun _ _ => rfl)) (hres _ _ _), by rw [hvs]; rfl, rfl, ?_, ?_⟩, ?_⟩
  · intro b off hp
    have hin : MemPlace.cell b off ∈ before := by simpa using hp
    rw [Below.frozen hx (hlt _ hin)]
    exact hz b off hin
  · intro ha
    simpa using hn ha
  · intro p hp _
    simpa using hp
end
section
variable {H : Type} {enc : TypeId × Value → H} {P : Program} {w : World}
def in64 (n : Int) : Prop := -9223372036854775808 ≤ n ∧ n ≤ 9223372036854775807
/-- Whatever cells are read as one of a type are those of something, which is good. -/
def Reads (P : Program) (e : TypeId) {α : Type} (E : Enc α) (good : α → Prop) : Prop :=
  ∀ {H : Type} {enc : TypeId × Value → H} {w : World} {fuel : Nat} {cs : List Value} {x : DataW H × List MemPlace}, DataW.trod enc P w 0 (fun _ => true) true fuel e cs = some x → ∃ y : α, cs = E.cs y ∧ good y
theorem reads_int {e : TypeId} (h : P.underlying e = some (.int .i64)) : Reads P e eI in64 := by
  intro H enc w fuel cs x hx
  obtain ⟨n, rfl, _, hw⟩ := DataW.trod_int h hx
  refine ⟨n, rfl, ?_⟩
  simpa [Lit.wf, IntKind.min, IntKind.max, IntKind.signed, IntKind.bits, in64] using hw
theorem reads_u8 {e : TypeId} (h : P.underlying e = some (.int .u8)) : Reads P e eB (fun _ => True) := by
  intro H enc w fuel cs x hx
  obtain ⟨n, rfl, _, hw⟩ := DataW.trod_int h hx
  have hw' : 0 ≤ n ∧ n ≤ 255 := by simpa [Lit.wf, IntKind.min, IntKind.max, IntKind.signed, IntKind.bits] using hw
  refine ⟨b8 n.toNat, ?_, trivial⟩
  show [Value.int .u8 n] = [.int .u8 ((b8 n.toNat).toNat : Int)]
  rw [b8_toNat _ (by omega), Int.toNat_of_nonneg hw'.1]
theorem list_choose {α : Type} {p : Nat → α → Prop} : ∀ {n : Nat}, (∀ i, i < n → ∃ x, p i x) → ∃ xs : List α, xs.length = n ∧ ∀ i x, xs[i]? = some x → p i x
  | 0, _ => ⟨[], rfl, fun i x h => by simp at h⟩
  | n + 1, h => by
    obtain ⟨xs, hl, hx⟩ := list_choose (n := n) (fun i hi => h i (by omega))
    obtain ⟨y, hy⟩ := h n (by omega)
    refine ⟨xs ++ [y], by simp [hl], fun i x hi => ?_⟩
    rcases Nat.lt_or_ge i n with h1 | h1
    · rw [List.getElem?_append_left (by omega)] at hi
      exact hx i x hi
    · rw [List.getElem?_append_right (by omega), hl] at hi
      have : i = n := by
        have := (List.getElem?_eq_some_iff.1 hi).1
        simp at this; omega
      subst this
      simp at hi
      subst hi
      exact hy
/-- A slice that is read. -/
theorem open_rd {α : Type} {E : Enc α} {good : α → Prop} {t e : TypeId} {fuel : Nat} {cs : List Value} {x : DataW H × List MemPlace} (ht : P.underlying t = some (.slice e)) (hc : P.cellsOf e = E.sz) (hr : Reads P e E good)
    (h : DataW.trod enc P w 0 (fun _ => true) true fuel t cs = some x) : ∃ (A : Option Addr) (c : Nat) (xs : List α), cs = [.slice A xs.length c] ∧ Rd E w A c xs ∧ ∀ y ∈ xs, good y := by
  rcases Deep.open_slice ht h with ⟨rfl, _⟩ | ⟨a, len, cap, m, n, D, Pl, rfl, _, hl, hm, hmm, _, hi⟩
  · exact ⟨none, 0, [], rfl, Rd.nil _ _ _ _, fun y hy => by cases hy⟩
  · rw [if_pos rfl] at hmm
    subst hmm
    obtain ⟨xs, hxl, hxs⟩ := list_choose (α := α) (p := fun i y => good y ∧ ∀ j u, (E.cs y)[j]? = some u → w.cell? (a.add (i * E.sz + j)) = some u) (n := len) (fun i hil => by
      obtain ⟨cs', h1, h2⟩ := hi i (by omega)
      obtain ⟨y, rfl, hg⟩ := hr h2
      refine ⟨y, hg, fun j u hu => ?_⟩
      obtain ⟨_, hlen, hat⟩ := World.cells?_some h1
      have hj : j < P.cellsOf e := by rw [← hlen]; exact (List.getElem?_eq_some_iff.1 hu).1
      have := hat j hj
      rw [add_comp, hc] at this
      rw [this, hu])
    unfold maxLen at hm
    refine ⟨some a, m, xs, by rw [hxl], ⟨by omega, by omega, fun hp => ⟨a, rfl, ?_, fun j y hj i u hu => (hxs j y hj).2 i u hu⟩⟩, fun y hy => ?_⟩
    · have h0 : xs[0]? = some (xs[0]'hp) := List.getElem?_eq_getElem hp
      have hlen := E.len (xs[0]'hp)
      have hpos := E.pos
      have h1 := (hxs 0 _ h0).2 0 _ (List.getElem?_eq_getElem (by omega))
      have h2 := World.block_lt_of_cell? w _ h1
      have : (a.add (0 * E.sz + 0)).block = a.block := by unfold Addr.add; split <;> rfl
      rwa [this] at h2
    · obtain ⟨i, hi', rfl⟩ := List.getElem_of_mem hy
      exact (hxs i _ (List.getElem?_eq_getElem hi')).1
theorem cells_slice {r : Reach} {b0 : Nat} {t e : TypeId} {v : Value} {A : Option Addr} {n c : Nat} (ht : P.underlying t = some (.slice e)) (hv : Value.okWide P w r b0 t v) (h : v.cells.toList = [.slice A n c]) : v = .slice A n c := by
  cases v <;> simp [Value.cells] at h <;> simp [Value.okWide, ht, Cell.okWide, Cell.ok] at hv ⊢
  exact h
theorem cells_int {r : Reach} {b0 : Nat} {t : TypeId} {v : Value} {n : Int} (ht : P.underlying t = some (.int .i64)) (hv : Value.okWide P w r b0 t v) (h : v.cells.toList = [.int .i64 n]) : v = .int .i64 n := by
  cases v <;> simp [Value.cells] at h <;> simp [Value.okWide, ht, Cell.okWide, Cell.ok] at hv ⊢
  exact h
theorem cells_agg {r : Reach} {b0 : Nat} {t : TypeId} {fs : Array Field} {v : Value} {cs : List Value} (ht : P.underlying t = some (.struct fs)) (hv : Value.okWide P w r b0 t v) (h : v.cells.toList = cs) : v = .agg cs.toArray := by
  obtain ⟨cs', rfl, _⟩ := okWide_struct ht hv
  rw [← h]; simp [Value.cells]
end
end Go.Proofs.YtdghbnkegahdnaaGreat.B
