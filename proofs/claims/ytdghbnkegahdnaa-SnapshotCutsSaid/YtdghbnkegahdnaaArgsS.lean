/- What an argument that is a state, a table or a snapshot is. -/
import Derived.Test.YtdghbnkegahdnaaArgs
set_option linter.unusedVariables false
set_option linter.unusedSimpArgs false
set_option maxRecDepth 100000
namespace Go.Proofs.Ytdghbnkegahdnaa.B
open Go Go.RowKit Go.Proofs Go.WideShapes Go.ChangeShapes Go.ChangeAt

theorem cellsInt : Try.prog.cellsOf 3 = 1 := by kernel_rfl
theorem cellsBool : Try.prog.cellsOf 4 = 1 := by kernel_rfl
theorem cellsInts : Try.prog.cellsOf 39 = 1 := by kernel_rfl
theorem cellsEnts : Try.prog.cellsOf 42 = 1 := by kernel_rfl
theorem cellsEnt : Try.prog.cellsOf 78 = 3 := by kernel_rfl
theorem cellsState : Try.prog.cellsOf 41 = 4 := by kernel_rfl
theorem cellsSnap : Try.prog.cellsOf 44 = 6 := by kernel_rfl
def goodE (e : Ent) : Prop := in64 e.proc ∧ in64 e.seq ∧ in64 e.resp
theorem reads_ent : Reads Try.prog 78 eE goodE := by
  intro H enc w fuel cs x h
  obtain ⟨xs, n, _, _, hlen, hxl, hf⟩ := DataW.trod_struct Try.underlying78 h
  rw [cellsEnt] at hlen
  match cs, hlen, xs, hxl with
  | [c0, c1, c2], _, [y0, y1, y2], _ =>
    have f0 := hf 0 _ rfl
    have f1 := hf 1 _ rfl
    have f2 := hf 2 _ rfl
    simp [cellsInt] at f0 f1 f2
    obtain ⟨p, hp, g0⟩ := reads_int Try.underlying3 f0
    obtain ⟨s, hs, g1⟩ := reads_int Try.underlying3 f1
    obtain ⟨r, hr, g2⟩ := reads_int Try.underlying3 f2
    simp only [eI, List.cons.injEq, and_true] at hp hs hr
    subst hp hs hr
    exact ⟨⟨p, s, r⟩, rfl, g0, g1, g2⟩
section
variable {H : Type} {enc : TypeId × Value → H} {w : World}
theorem trod_state {fuel : Nat} {cs : List Value} {x : DataW H × List MemPlace} (h : DataW.trod enc Try.prog w 0 (fun _ => true) true fuel 41 cs = some x) :
    ∃ (s : St) (A : Option Addr) (c : Nat), cs = [.int .i64 s.kind, .slice A s.l.length c, .bool s.sealed, .int .i64 s.to] ∧ Rd eI w A c s.l := by
  obtain ⟨xs, n, _, _, hlen, hxl, hf⟩ := DataW.trod_struct Try.underlying41 h
  rw [cellsState] at hlen
  match cs, hlen, xs, hxl with
  | [c0, c1, c2, c3], _, [y0, y1, y2, y3], _ =>
    have f0 := hf 0 _ rfl
    have f1 := hf 1 _ rfl
    have f2 := hf 2 _ rfl
    have f3 := hf 3 _ rfl
    simp [cellsInt, cellsBool, cellsInts] at f0 f1 f2 f3
    obtain ⟨k, hk, _⟩ := reads_int Try.underlying3 f0
    obtain ⟨A, c, l, hl, hr, _⟩ := open_rd (E := eI) Try.underlying39 cellsInt (reads_int Try.underlying3) f1
    obtain ⟨b, hb, _⟩ := DataW.trod_bool Try.underlying4 f2
    obtain ⟨t, ht, _⟩ := reads_int Try.underlying3 f3
    simp only [eI, List.cons.injEq, and_true] at hk hl hb ht
    subst hk hl hb ht
    exact ⟨⟨k, l, b, t⟩, A, c, rfl, hr⟩
theorem trod_snap {fuel : Nat} {cs : List Value} {x : DataW H × List MemPlace} (h : DataW.trod enc Try.prog w 0 (fun _ => true) true fuel 44 cs = some x) :
    ∃ (s : Snp) (A : Option Addr) (c : Nat) (B : Option Addr) (d : Nat), cs = [.int .i64 s.index, .int .i64 s.st.kind, .slice A s.st.l.length c, .bool s.st.sealed, .int .i64 s.st.to, .slice B s.tab.length d] ∧ Rd eI w A c s.st.l ∧ Rd eE w B d s.tab := by
  obtain ⟨xs, n, _, _, hlen, hxl, hf⟩ := DataW.trod_struct Try.underlying44 h
  rw [cellsSnap] at hlen
  match cs, hlen, xs, hxl with
  | [c0, c1, c2, c3, c4, c5], _, [y0, y1, y2], _ =>
    have f0 := hf 0 _ rfl
    have f1 := hf 1 _ rfl
    have f2 := hf 2 _ rfl
    simp [cellsInt, cellsState, cellsEnts] at f0 f1 f2
    obtain ⟨ix, hix, _⟩ := reads_int Try.underlying3 f0
    obtain ⟨s, A, c, hs, hrA⟩ := trod_state f1
    obtain ⟨B, d, t, ht, hrB, _⟩ := open_rd (E := eE) Try.underlying42 cellsEnt reads_ent f2
    simp only [eI, List.cons.injEq, and_true] at hix hs ht
    obtain ⟨rfl, rfl, rfl, rfl⟩ := hs
    subst hix ht
    exact ⟨⟨ix, s, t⟩, A, c, B, d, rfl, hrA, hrB⟩
end
end Go.Proofs.Ytdghbnkegahdnaa.B
