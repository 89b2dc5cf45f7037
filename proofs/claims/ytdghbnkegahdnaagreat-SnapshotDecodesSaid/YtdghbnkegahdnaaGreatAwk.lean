/- The walks of the chapter's example of snapshots: Take at one record, and what it reaches. -/
import Derived.Test.YtdghbnkegahdnaaGreatSnapW
import Derived.Test.YtdghbnkegahdnaaGreatSchemaW
import Derived.Test.YtdghbnkegahdnaaGreatCodecV
set_option linter.unusedVariables false
set_option linter.unusedSimpArgs false
set_option maxRecDepth 100000
set_option maxHeartbeats 2000000
namespace Go.Proofs.YtdghbnkegahdnaaGreat.B
open Go Go.RowKit Go.Proofs

theorem new_cell1 (w : World) (o : Obj) (cs : Array Value) (t : TypeId) (j : Nat) {u : Value} (h : cs[j]? = some u) : ((w.alloc o).alloc (.cells cs t)).cell? ⟨w.heap.size + 1, j, none⟩ = some u ∧ ((w.alloc o).alloc (.cells cs t)).frozen? ⟨w.heap.size + 1, j, none⟩ = false := by
  have h1 := new_cell (w.alloc o) cs t j h
  rwa [show (w.alloc o).heap.size = w.heap.size + 1 by simp] at h1
theorem new_cell2 (w : World) (o o' : Obj) (cs : Array Value) (t : TypeId) (j : Nat) {u : Value} (h : cs[j]? = some u) : (((w.alloc o).alloc o').alloc (.cells cs t)).cell? ⟨w.heap.size + 1 + 1, j, none⟩ = some u ∧ (((w.alloc o).alloc o').alloc (.cells cs t)).frozen? ⟨w.heap.size + 1 + 1, j, none⟩ = false := by
  have h1 := new_cell1 (w.alloc o) o' cs t j h
  rwa [show (w.alloc o).heap.size = w.heap.size + 1 by simp] at h1
theorem rd_one {α : Type} (E : Enc α) (w : World) (e : TypeId) (x : α) : Rd E (w.alloc (.cells (E.cs x).toArray e)) (some ⟨w.heap.size, 0, none⟩) 1 [x] :=
  (Own.lit (E := E) (e := e) w w.heap.size [x] (Nat.le_refl _) (by simp)).rd.elim fun A h => h.elim fun c h => by
    obtain ⟨h1, h2⟩ := h
    simp only [Value.slice.injEq, List.length_cons, List.length_nil] at h1
    obtain ⟨rfl, _, rfl⟩ := h1
    have : E.all [x] = E.cs x := by simp [Enc.all]
    rw [this] at h2
    exact h2
theorem number_awk (A : Option Addr) (c : Nat) (w : World) (hr : Rd eI w A c [0]) :
    Calls Tryz.prog 93 #[.agg #[.int .i64 0, .slice A 1 c, .bool false, .int .i64 0], .agg #[.int .i64 1, .int .i64 5, .int .i64 0]] w fun e w' => ∃ ad : Nat, e = .returned (.tuple #[.agg #[.int .i64 0, .slice (some ⟨ad, 0, none⟩) 1 1, .bool false, .int .i64 0], .int .i64 0]) ∧ Rd eI w' (some ⟨ad, 0, none⟩) 1 [5] ∧ w.heap.size ≤ ad ∧ Ex w w' := by
  obtain ⟨ad, rfl, hc⟩ := hr.at1 (j := 0) (u := .int .i64 0) rfl (by decide) rfl
  have ha0 : ad.add 0 = ad := by unfold Addr.add; rw [if_pos rfl]
  rw [ha0] at hc
  have hx3 := (((Ex.refl w).alloc (.cells #[.int .i64 0, .slice (some ad) 1 c, .bool false, .int .i64 0] 36)).alloc (.cells #[.int .i64 1, .int .i64 5, .int .i64 0] 67)).alloc (.cells #[.int .i64 0, .slice none 0 0, .bool false, .int .i64 0] 36)
  have hc3 := hx3.cell hc
  have k5 : cutI 5 = 5 := by decide
  have k6 : wrap64 5 = 5 := by unfold wrap64; omega
  clear ha0 hr
  go_enter Tryz.func93, Tryz.ntmps93
  go_wp2_with (go_at_call 112; refine (objs_cut _ _).mono ?_; rintro e w1 ⟨rfl, rfl⟩)
  refine bodyPost_ret (v := .tuple #[.agg #[.int .i64 0, .slice (some ⟨w.heap.size + 1 + 1 + 1, 0, none⟩) 1 1, .bool false, .int .i64 0], .int .i64 0]) (by simp [results, Tryz.results93, go_sem]) rfl ⟨w.heap.size + 1 + 1 + 1, rfl, ?_, by omega, ?_⟩
  · have h := rd_one eI (((w.alloc (.cells #[.int .i64 0, .slice (some ⟨w.heap.size + 1 + 1 + 1, 0, none⟩) 1 1, .bool false, .int .i64 0] 36)).alloc (.cells #[.int .i64 1, .int .i64 5, .int .i64 0] 67)).alloc (.cells #[.int .i64 0, .slice (some ⟨w.heap.size + 1 + 1 + 1, 0, none⟩) 1 1, .bool false, .int .i64 0] 36)) 3 5
    have e : (((w.alloc (.cells #[.int .i64 0, .slice (some ⟨w.heap.size + 1 + 1 + 1, 0, none⟩) 1 1, .bool false, .int .i64 0] 36)).alloc (.cells #[.int .i64 1, .int .i64 5, .int .i64 0] 67)).alloc (.cells #[.int .i64 0, .slice (some ⟨w.heap.size + 1 + 1 + 1, 0, none⟩) 1 1, .bool false, .int .i64 0] 36)).heap.size = w.heap.size + 1 + 1 + 1 := by simp
    rw [e] at h
    exact h
  · exact ((((Ex.refl w).alloc _).alloc _).alloc _).alloc _
theorem clone_nil (w : World) : Calls Tryz.prog 98 #[.slice none 0 0] w fun e w' => e = .returned (.slice none 0 0) ∧ w = w' := by
  have hnil0 := fun (w : World) => Go.Lib.run_eql_slice_nil (P := Tryz.prog) w 37 72 none 0 0 0 0 Tryz.underlying37
  go_enter Tryz.func98, Tryz.ntmps98
  go_wp2_with fail
  go_ret
  exact ⟨rfl, rfl⟩
theorem index_nil (v : Value) (w : World) : Calls Tryz.prog 100 #[.slice none 0 0, v] w fun e w' => e = .returned (.int .i64 (-1)) ∧ w = w' := by
  go_enter Tryz.func100, Tryz.ntmps100
  go_wp2_with fail
  go_loop [8] (fun i => i = .int .i64 0) (fun _ => 0)
  case atStart => rfl
  case round =>
    subst hrel
    go_wp2_with fail
    go_ret
    exact ⟨rfl, rfl⟩
theorem delete_nil (v : Value) (w : World) : Calls Tryz.prog 97 #[.slice none 0 0, v] w fun e w' => e = .returned (.slice none 0 0) ∧ w = w' := by
  go_enter Tryz.func97, Tryz.ntmps97
  go_wp2_with (go_at_call 100; refine (index_nil _ _).mono ?_; rintro e w1 ⟨rfl, rfl⟩)
  go_ret
  exact ⟨rfl, rfl⟩
theorem infoE' : (Tryz.prog.info? 72).map (fun i => (i.zero, i.size, i.bytes)) = some (some (.agg #[.int .i64 0, .int .i64 0, .int .i64 0]), 3, 24) := by kernel_rfl
theorem insert_nil (A : Option Addr) (c : Nat) (x : Ent) (w : World) (hr : Rd eE w A c [x]) : Calls Tryz.prog 102 #[.slice none 0 0, .int .i64 0, .slice A 1 c] w fun e w' => ∃ v, e = .returned v ∧ Own eE 72 w' w.heap.size v [x] ∧ Ex w w' := by
  go_enter Tryz.func102, Tryz.ntmps102
  go_wp2_with ((with_reducible refine gate_bi (b := .append) (xs := #[.tmp 23, .tmp 24]) rfl ?_); at_builtin; go_loud (refine own_appR eE w.heap.size rfl (.tmp 23) (.tmp 24) 37 72 (.agg #[.int .i64 0, .int .i64 0, .int .i64 0]) 24 rfl Tryz.underlying37 infoE' rfl (by decide) _ [] [x] A c rfl rfl (Own.nil _ _ _ _) hr (Nat.le_refl _) (by simp) ?_); intro v1 w1 ho1 hg1 ha1)
  go_ret
  exact ⟨v1, rfl, ho1, (Ex.refl w).grown hg1 (fun k hk => by cases hk)⟩
/-- How a record lies in memory. -/
def eR : Enc Rcd := ⟨7, fun r => [.int .i64 r.index, .int .i64 r.proc, .int .i64 r.seq, .int .i64 r.op.code, .int .i64 r.op.a, .int .i64 r.op.b, .int .i64 r.resp], fun _ => rfl, fun x u hu => by
  simp only [List.mem_cons, List.not_mem_nil, or_false] at hu; rcases hu with rfl | rfl | rfl | rfl | rfl | rfl | rfl <;> rfl, by decide⟩
theorem note_nil (r : Rcd) (w : World) : Calls Tryz.prog 60 #[.slice none 0 0, .agg #[.int .i64 r.index, .int .i64 r.proc, .int .i64 r.seq, .int .i64 r.op.code, .int .i64 r.op.a, .int .i64 r.op.b, .int .i64 r.resp]] w fun e w' => ∃ D d, e = .returned (.slice D 1 d) ∧ Rd eE w' D d [⟨r.proc, r.seq, r.resp⟩] ∧ (∀ a, D = some a → w.heap.size ≤ a.block) ∧ Ex w w' := by
  obtain ⟨ix, p, sq, ⟨co, x, y⟩, rs⟩ := r
  simp only
  have hx1 : Ex w (w.alloc (.cells #[.int .i64 ix, .int .i64 p, .int .i64 sq, .int .i64 co, .int .i64 x, .int .i64 y, .int .i64 rs] 69)) := (Ex.refl w).alloc _
  have hl : Rd eE ((w.alloc (.cells #[.int .i64 ix, .int .i64 p, .int .i64 sq, .int .i64 co, .int .i64 x, .int .i64 y, .int .i64 rs] 69)).alloc (.cells #[.int .i64 p, .int .i64 sq, .int .i64 rs] 72)) (some ⟨w.heap.size + 1, 0, none⟩) 1 [⟨p, sq, rs⟩] := by
    have h := rd_one eE (w.alloc (.cells #[.int .i64 ix, .int .i64 p, .int .i64 sq, .int .i64 co, .int .i64 x, .int .i64 y, .int .i64 rs] 69)) 72 ⟨p, sq, rs⟩
    rw [show (w.alloc (.cells #[.int .i64 ix, .int .i64 p, .int .i64 sq, .int .i64 co, .int .i64 x, .int .i64 y, .int .i64 rs] 69)).heap.size = w.heap.size + 1 by simp] at h
    exact h
  go_enter Tryz.func60, Tryz.ntmps60
  go_wp2_with (first
    | (go_at_call 98; refine (clone_nil _).mono ?_; rintro e w1 ⟨rfl, rfl⟩)
    | (go_at_call 97; refine (delete_nil _ _).mono ?_; rintro e w1 ⟨rfl, rfl⟩)
    | (go_at_call 100; refine (index_nil _ _).mono ?_; rintro e w1 ⟨rfl, rfl⟩)
    | (go_at_call 102; go_loud (with_reducible refine (insert_nil _ _ ⟨p, sq, rs⟩ _ hl).mono ?_); rintro e w2 ⟨v2, rfl, ho2, hx2⟩; (obtain ⟨D, d, rfl, hr2⟩ := ho2.rd)))
  go_ret
  exact ⟨D, d, rfl, hr2, fun a ha => by subst ha; have := (ho2.lt a.block rfl).1; simp at this; omega, (hx1.alloc _).trans hx2⟩
theorem step_awk (A : Option Addr) (c : Nat) (w : World) (hr : Rd eI w A c [0]) :
    Calls Tryz.prog 59 #[.agg #[.int .i64 0, .slice A 1 c, .bool false, .int .i64 0], .agg #[.int .i64 1, .int .i64 5, .int .i64 0]] w fun e w' => ∃ ad : Nat, e = .returned (.tuple #[.agg #[.int .i64 0, .slice (some ⟨ad, 0, none⟩) 1 1, .bool false, .int .i64 0], .int .i64 0]) ∧ Rd eI w' (some ⟨ad, 0, none⟩) 1 [5] ∧ w.heap.size ≤ ad ∧ Ex w w' := by
  have hm : mayS ⟨0, [0], false, 0⟩ = true := by decide
  have Hm := Lib.hid hm
  clear hm
  have hx3 := (((Ex.refl w).alloc (.cells #[.int .i64 0, .slice A 1 c, .bool false, .int .i64 0] 36)).alloc (.cells #[.int .i64 1, .int .i64 5, .int .i64 0] 67)).alloc (.cells #[.int .i64 0, .slice none 0 0, .bool false, .int .i64 0] 36)
  go_enter Tryz.func59, Tryz.ntmps59
  go_wp2_with (first
    | (go_at_call 70; go_loud (refine (objs_May ⟨0, [0], false, 0⟩ A c _ (hr.ex hx3) (by decide)).mono ?_); rintro e w1 ⟨rfl, hx1⟩; rw [Hm.out]; (obtain ⟨s0, s0'⟩ := hx1.both <| (((Ex.refl _).alloc _).alloc _).both (new_cell (u := .int .i64 0) w #[.int .i64 0, .slice A 1 c, .bool false, .int .i64 0] 36 0 rfl)); (obtain ⟨s1, s1'⟩ := hx1.both <| (((Ex.refl _).alloc _).alloc _).both (new_cell (u := .slice A 1 c) w #[.int .i64 0, .slice A 1 c, .bool false, .int .i64 0] 36 1 rfl)); (obtain ⟨s2, s2'⟩ := hx1.both <| (((Ex.refl _).alloc _).alloc _).both (new_cell (u := .bool false) w #[.int .i64 0, .slice A 1 c, .bool false, .int .i64 0] 36 2 rfl)); (obtain ⟨s3, s3'⟩ := hx1.both <| (((Ex.refl _).alloc _).alloc _).both (new_cell (u := .int .i64 0) w #[.int .i64 0, .slice A 1 c, .bool false, .int .i64 0] 36 3 rfl)); (obtain ⟨o0, o0'⟩ := hx1.both <| ((Ex.refl _).alloc _).both (new_cell1 (u := .int .i64 1) w (.cells #[.int .i64 0, .slice A 1 c, .bool false, .int .i64 0] 36) #[.int .i64 1, .int .i64 5, .int .i64 0] 67 0 rfl)); (obtain ⟨o1, o1'⟩ := hx1.both <| ((Ex.refl _).alloc _).both (new_cell1 (u := .int .i64 5) w (.cells #[.int .i64 0, .slice A 1 c, .bool false, .int .i64 0] 36) #[.int .i64 1, .int .i64 5, .int .i64 0] 67 1 rfl)); (obtain ⟨o2, o2'⟩ := hx1.both <| ((Ex.refl _).alloc _).both (new_cell1 (u := .int .i64 0) w (.cells #[.int .i64 0, .slice A 1 c, .bool false, .int .i64 0] 36) #[.int .i64 1, .int .i64 5, .int .i64 0] 67 2 rfl)); (obtain ⟨z0, z0'⟩ := hx1.both (new_cell2 (u := .int .i64 0) w (.cells #[.int .i64 0, .slice A 1 c, .bool false, .int .i64 0] 36) (.cells #[.int .i64 1, .int .i64 5, .int .i64 0] 67) #[.int .i64 0, .slice none 0 0, .bool false, .int .i64 0] 36 0 rfl)); (obtain ⟨z1, z1'⟩ := hx1.both (new_cell2 (u := .slice none 0 0) w (.cells #[.int .i64 0, .slice A 1 c, .bool false, .int .i64 0] 36) (.cells #[.int .i64 1, .int .i64 5, .int .i64 0] 67) #[.int .i64 0, .slice none 0 0, .bool false, .int .i64 0] 36 1 rfl)); (obtain ⟨z2, z2'⟩ := hx1.both (new_cell2 (u := .bool false) w (.cells #[.int .i64 0, .slice A 1 c, .bool false, .int .i64 0] 36) (.cells #[.int .i64 1, .int .i64 5, .int .i64 0] 67) #[.int .i64 0, .slice none 0 0, .bool false, .int .i64 0] 36 2 rfl)); (obtain ⟨z3, z3'⟩ := hx1.both (new_cell2 (u := .int .i64 0) w (.cells #[.int .i64 0, .slice A 1 c, .bool false, .int .i64 0] 36) (.cells #[.int .i64 1, .int .i64 5, .int .i64 0] 67) #[.int .i64 0, .slice none 0 0, .bool false, .int .i64 0] 36 3 rfl)); have hx01 := hx3.trans hx1; have hw1 : w.heap.size + 1 + 1 < w1.heap.size := World.block_lt_of_cell? _ _ z0)
    | (go_at_call 93; go_loud (refine (number_awk A c _ (hr.ex hx01)).mono ?_); rintro e w2 ⟨ad, rfl, hr2, hn2, hx2⟩; (obtain ⟨y0, y0'⟩ := hx2.both ⟨z0, z0'⟩); (obtain ⟨y1, y1'⟩ := hx2.both ⟨z1, z1'⟩); (obtain ⟨y2, y2'⟩ := hx2.both ⟨z2, z2'⟩); (obtain ⟨y3, y3'⟩ := hx2.both ⟨z3, z3'⟩); have hx02 := hx01.trans hx2; have hw2 : w.heap.size + 1 + 1 < w2.heap.size := World.block_lt_of_cell? _ _ y0))
  refine bodyPost_ret (v := .tuple #[.agg #[.int .i64 0, .slice (some ⟨ad, 0, none⟩) 1 1, .bool false, .int .i64 0], .int .i64 0]) (by simp [results, Tryz.results59, go_sem, y0, y1, y2, y3, hw2]) rfl ⟨ad, rfl, ?_, by omega, ?_⟩
  · with_reducible
      repeat' first
        | exact hr2
        | refine Rd.grown ?_ (gb_setp _ _ _) (fun a ha e => by cases ha; have := Option.some.inj e; simp only at this; omega)
  · with_reducible (repeat' first | exact hx02 | refine Ex.set ?_ (by simp only; omega) _)
def rc0 : Rcd := ⟨0, 2, 1, ⟨1, 5, 0⟩, 0⟩
/-- A record that lies somewhere. -/
def RecAt (w : World) (p : Addr) (r : Rcd) : Prop := w.cell? p = some (.int .i64 r.index) ∧ w.cell? ⟨p.block, p.off + 1, none⟩ = some (.int .i64 r.proc) ∧ w.cell? ⟨p.block, p.off + 2, none⟩ = some (.int .i64 r.seq) ∧ w.cell? ⟨p.block, p.off + 3, none⟩ = some (.int .i64 r.op.code) ∧ w.cell? ⟨p.block, p.off + 4, none⟩ = some (.int .i64 r.op.a) ∧ w.cell? ⟨p.block, p.off + 5, none⟩ = some (.int .i64 r.op.b) ∧ w.cell? ⟨p.block, p.off + 6, none⟩ = some (.int .i64 r.resp)
theorem recAt {w : World} {A : Option Addr} {c : Nat} {t : List Rcd} (h : Rd eR w A c t) {k : Nat} (hk : k < t.length) : ∃ ad, A = some ad ∧ RecAt w (ad.add (k * 7)) t[k] := by
  obtain ⟨ad, e, hc⟩ := h.at k hk
  refine ⟨ad, e, hc 0 _ rfl, ?_, ?_, ?_, ?_, ?_, ?_⟩
  · rw [← add_add ad (k * 7) 1 (by decide)]; exact hc 1 _ rfl
  · rw [← add_add ad (k * 7) 2 (by decide)]; exact hc 2 _ rfl
  · rw [← add_add ad (k * 7) 3 (by decide)]; exact hc 3 _ rfl
  · rw [← add_add ad (k * 7) 4 (by decide)]; exact hc 4 _ rfl
  · rw [← add_add ad (k * 7) 5 (by decide)]; exact hc 5 _ rfl
  · rw [← add_add ad (k * 7) 6 (by decide)]; exact hc 6 _ rfl
/-- How the example's snapshot lies behind its record. -/
def AwkFin (w wr : World) : Prop := ∃ (C D : Option Addr) (c2 d2 : Nat), (wr.cell? ⟨w.heap.size, 0, none⟩ = some (.int .i64 1) ∧ wr.cell? ⟨w.heap.size, 1, none⟩ = some (.int .i64 0) ∧ wr.cell? ⟨w.heap.size, 2, none⟩ = some (.slice C 1 c2) ∧ wr.cell? ⟨w.heap.size, 3, none⟩ = some (.bool false) ∧ wr.cell? ⟨w.heap.size, 4, none⟩ = some (.int .i64 0) ∧ wr.cell? ⟨w.heap.size, 5, none⟩ = some (.slice D 1 d2)) ∧
  wr.cell? ⟨w.heap.size + 1, 0, none⟩ = some (.int .i64 0) ∧ wr.frozen? ⟨w.heap.size + 1, 0, none⟩ = false ∧ wr.cell? ⟨w.heap.size + 1, 1, none⟩ = some (.int .i64 0) ∧ wr.frozen? ⟨w.heap.size + 1, 1, none⟩ = false ∧ wr.cell? ⟨w.heap.size + 1, 2, none⟩ = some (.slice none 0 0) ∧ wr.frozen? ⟨w.heap.size + 1, 2, none⟩ = false ∧ wr.cell? ⟨w.heap.size + 1, 3, none⟩ = some (.bool false) ∧ wr.frozen? ⟨w.heap.size + 1, 3, none⟩ = false ∧ wr.cell? ⟨w.heap.size + 1, 4, none⟩ = some (.int .i64 0) ∧ wr.frozen? ⟨w.heap.size + 1, 4, none⟩ = false ∧ wr.cell? ⟨w.heap.size + 1, 5, none⟩ = some (.slice none 0 0) ∧ wr.frozen? ⟨w.heap.size + 1, 5, none⟩ = false ∧ Rd eI wr C c2 [5] ∧ Rd eE wr D d2 [⟨2, 1, 0⟩] ∧ (∀ a, C = some a → w.heap.size + 1 < a.block) ∧ (∀ a, D = some a → w.heap.size + 1 < a.block) ∧ Ex w wr
theorem take_awk (A : Option Addr) (c : Nat) (B : Option Addr) (d : Nat) (w : World) (hA : Rd eI w A c [0]) (hB : Rd eR w B d [rc0]) :
    Calls Tryz.prog 27 #[.agg #[.int .i64 0, .int .i64 0, .slice A 1 c, .bool false, .int .i64 0, .slice none 0 0], .slice B 1 d] w fun e w' => ∃ (C D : Option Addr) (c2 d2 : Nat), e = .returned (.tuple #[.agg #[.int .i64 1, .int .i64 0, .slice C 1 c2, .bool false, .int .i64 0, .slice D 1 d2], .int .i64 0]) ∧ Rd eI w' C c2 [5] ∧ Rd eE w' D d2 [⟨2, 1, 0⟩] ∧ Ex w w' := by
  have hx2 : Ex w ((w.alloc (.cells #[.int .i64 0, .int .i64 0, .slice A 1 c, .bool false, .int .i64 0, .slice none 0 0] 39)).alloc (.cells #[.int .i64 0, .int .i64 0, .slice none 0 0, .bool false, .int .i64 0, .slice none 0 0] 39)) := ((Ex.refl w).alloc _).alloc _
  have hA2 := hA.ex hx2
  have hB2 := hB.ex hx2
  obtain ⟨ad, rfl, hrec⟩ := recAt hB2 (k := 0) (by decide)
  rw [Nat.zero_mul, show ad.add 0 = ad from by unfold Addr.add; rw [if_pos rfl]] at hrec
  obtain ⟨b0, b1, b2, b3, b4, b5, b6⟩ : RecAt ((w.alloc (.cells #[.int .i64 0, .int .i64 0, .slice A 1 c, .bool false, .int .i64 0, .slice none 0 0] 39)).alloc (.cells #[.int .i64 0, .int .i64 0, .slice none 0 0, .bool false, .int .i64 0, .slice none 0 0] 39)) ad rc0 := hrec
  simp only [rc0] at b0 b1 b2 b3 b4 b5 b6
  have hf : fitsR rc0 = true := by decide
  have Hf := Lib.hid hf
  clear hf
  go_enter Tryz.func27, Tryz.ntmps27
  go_wp2_with fail
  go_loopw [10] (fun i wr => (i = .int .i64 0 ∧ wr = (w.alloc (.cells #[.int .i64 0, .int .i64 0, .slice A 1 c, .bool false, .int .i64 0, .slice none 0 0] 39)).alloc (.cells #[.int .i64 0, .int .i64 0, .slice none 0 0, .bool false, .int .i64 0, .slice none 0 0] 39)) ∨ (i = .int .i64 1 ∧ AwkFin w wr)) (fun i _ => (1 - intOf i).toNat)
  case atStart => exact .inl ⟨rfl, rfl⟩
  case round =>
    rcases hrel with ⟨rfl, rfl⟩ | ⟨rfl, hfin⟩
    · go_wp2_with (first
        | (go_at_call 58; go_loud (refine (schema_Fits rc0 _).mono ?_); rintro e w4 ⟨rfl, hx4⟩; rw [Hf.out]; (obtain ⟨s0, s0'⟩ := hx4.both <| (((Ex.refl _).alloc _).alloc _).both (new_cell (u := .int .i64 0) w _ _ 0 rfl)); (obtain ⟨s1, s1'⟩ := hx4.both <| (((Ex.refl _).alloc _).alloc _).both (new_cell (u := .int .i64 0) w _ _ 1 rfl)); (obtain ⟨s2, s2'⟩ := hx4.both <| (((Ex.refl _).alloc _).alloc _).both (new_cell (u := .slice A 1 c) w _ _ 2 rfl)); (obtain ⟨s3, s3'⟩ := hx4.both <| (((Ex.refl _).alloc _).alloc _).both (new_cell (u := .bool false) w _ _ 3 rfl)); (obtain ⟨s4, s4'⟩ := hx4.both <| (((Ex.refl _).alloc _).alloc _).both (new_cell (u := .int .i64 0) w _ _ 4 rfl)); (obtain ⟨s5, s5'⟩ := hx4.both <| (((Ex.refl _).alloc _).alloc _).both (new_cell (u := .slice none 0 0) w _ _ 5 rfl)); (obtain ⟨z0, z0'⟩ := hx4.both <| ((Ex.refl _).alloc _).both (new_cell1 (u := .int .i64 0) w _ _ _ 0 rfl)); (obtain ⟨z1, z1'⟩ := hx4.both <| ((Ex.refl _).alloc _).both (new_cell1 (u := .int .i64 0) w _ _ _ 1 rfl)); (obtain ⟨z2, z2'⟩ := hx4.both <| ((Ex.refl _).alloc _).both (new_cell1 (u := .slice none 0 0) w _ _ _ 2 rfl)); (obtain ⟨z3, z3'⟩ := hx4.both <| ((Ex.refl _).alloc _).both (new_cell1 (u := .bool false) w _ _ _ 3 rfl)); (obtain ⟨z4, z4'⟩ := hx4.both <| ((Ex.refl _).alloc _).both (new_cell1 (u := .int .i64 0) w _ _ _ 4 rfl)); (obtain ⟨z5, z5'⟩ := hx4.both <| ((Ex.refl _).alloc _).both (new_cell1 (u := .slice none 0 0) w _ _ _ 5 rfl)); (obtain ⟨r0, r0'⟩ := hx4.both (new_cell2 (u := .int .i64 0) w _ _ _ _ 0 rfl)); (obtain ⟨r1, r1'⟩ := hx4.both (new_cell2 (u := .int .i64 2) w _ _ _ _ 1 rfl)); (obtain ⟨r2, r2'⟩ := hx4.both (new_cell2 (u := .int .i64 1) w _ _ _ _ 2 rfl)); (obtain ⟨r3, r3'⟩ := hx4.both (new_cell2 (u := .int .i64 1) w _ _ _ _ 3 rfl)); (obtain ⟨r4, r4'⟩ := hx4.both (new_cell2 (u := .int .i64 5) w _ _ _ _ 4 rfl)); (obtain ⟨r5, r5'⟩ := hx4.both (new_cell2 (u := .int .i64 0) w _ _ _ _ 5 rfl)); (obtain ⟨r6, r6'⟩ := hx4.both (new_cell2 (u := .int .i64 0) w _ _ _ _ 6 rfl)); have hx04 : Ex w w4 := (hx2.alloc _).trans hx4)
        | (go_at_call 59; go_loud (refine (step_awk A c _ (hA.ex hx04)).mono ?_); rintro e w5 ⟨n5, rfl, hr5, hn5, hx5⟩; (obtain ⟨ss0, ss0'⟩ := hx5.both ⟨s0, s0'⟩); (obtain ⟨ss1, ss1'⟩ := hx5.both ⟨s1, s1'⟩); (obtain ⟨ss2, ss2'⟩ := hx5.both ⟨s2, s2'⟩); (obtain ⟨ss3, ss3'⟩ := hx5.both ⟨s3, s3'⟩); (obtain ⟨ss4, ss4'⟩ := hx5.both ⟨s4, s4'⟩); (obtain ⟨ss5, ss5'⟩ := hx5.both ⟨s5, s5'⟩); (obtain ⟨zz0, zz0'⟩ := hx5.both ⟨z0, z0'⟩); (obtain ⟨zz1, zz1'⟩ := hx5.both ⟨z1, z1'⟩); (obtain ⟨zz2, zz2'⟩ := hx5.both ⟨z2, z2'⟩); (obtain ⟨zz3, zz3'⟩ := hx5.both ⟨z3, z3'⟩); (obtain ⟨zz4, zz4'⟩ := hx5.both ⟨z4, z4'⟩); (obtain ⟨zz5, zz5'⟩ := hx5.both ⟨z5, z5'⟩); (obtain ⟨rr0, rr0'⟩ := hx5.both ⟨r0, r0'⟩); (obtain ⟨rr1, rr1'⟩ := hx5.both ⟨r1, r1'⟩); (obtain ⟨rr2, rr2'⟩ := hx5.both ⟨r2, r2'⟩); (obtain ⟨rr3, rr3'⟩ := hx5.both ⟨r3, r3'⟩); (obtain ⟨rr4, rr4'⟩ := hx5.both ⟨r4, r4'⟩); (obtain ⟨rr5, rr5'⟩ := hx5.both ⟨r5, r5'⟩); (obtain ⟨rr6, rr6'⟩ := hx5.both ⟨r6, r6'⟩); have hx05 : Ex w w5 := hx04.trans hx5))
      obtain ⟨W5, hW5⟩ : ∃ W5, W5 = (((((w5.setCell ⟨w.heap.size, 1, none⟩ (.int .i64 0)).setCell ⟨w.heap.size, 2, none⟩ (.slice (some ⟨n5, 0, none⟩) 1 1)).setCell ⟨w.heap.size, 3, none⟩ (.bool false)).setCell ⟨w.heap.size, 4, none⟩ (.int .i64 0)).setCell ⟨w.heap.size + 1 + 1, 6, none⟩ (.int .i64 0)) := ⟨_, rfl⟩
      have a0 : W5.cell? ⟨w.heap.size, 0, none⟩ = some (.int .i64 0) ∧ W5.frozen? ⟨w.heap.size, 0, none⟩ = false := by rw [hW5]; simp [go_sem, ss0, ss1, ss2, ss3, ss4, ss5, zz0, zz1, zz2, zz3, zz4, zz5, rr0, rr1, rr2, rr3, rr4, rr5, rr6, ss0', ss1', ss2', ss3', ss4', ss5', zz0', zz1', zz2', zz3', zz4', zz5', rr0', rr1', rr2', rr3', rr4', rr5', rr6']
      have a1 : W5.cell? ⟨w.heap.size, 1, none⟩ = some (.int .i64 0) ∧ W5.frozen? ⟨w.heap.size, 1, none⟩ = false := by rw [hW5]; simp [go_sem, ss0, ss1, ss2, ss3, ss4, ss5, zz0, zz1, zz2, zz3, zz4, zz5, rr0, rr1, rr2, rr3, rr4, rr5, rr6, ss0', ss1', ss2', ss3', ss4', ss5', zz0', zz1', zz2', zz3', zz4', zz5', rr0', rr1', rr2', rr3', rr4', rr5', rr6']
      have a2 : W5.cell? ⟨w.heap.size, 2, none⟩ = some (.slice (some ⟨n5, 0, none⟩) 1 1) ∧ W5.frozen? ⟨w.heap.size, 2, none⟩ = false := by rw [hW5]; simp [go_sem, ss0, ss1, ss2, ss3, ss4, ss5, zz0, zz1, zz2, zz3, zz4, zz5, rr0, rr1, rr2, rr3, rr4, rr5, rr6, ss0', ss1', ss2', ss3', ss4', ss5', zz0', zz1', zz2', zz3', zz4', zz5', rr0', rr1', rr2', rr3', rr4', rr5', rr6']
      have a3 : W5.cell? ⟨w.heap.size, 3, none⟩ = some (.bool false) ∧ W5.frozen? ⟨w.heap.size, 3, none⟩ = false := by rw [hW5]; simp [go_sem, ss0, ss1, ss2, ss3, ss4, ss5, zz0, zz1, zz2, zz3, zz4, zz5, rr0, rr1, rr2, rr3, rr4, rr5, rr6, ss0', ss1', ss2', ss3', ss4', ss5', zz0', zz1', zz2', zz3', zz4', zz5', rr0', rr1', rr2', rr3', rr4', rr5', rr6']
      have a4 : W5.cell? ⟨w.heap.size, 4, none⟩ = some (.int .i64 0) ∧ W5.frozen? ⟨w.heap.size, 4, none⟩ = false := by rw [hW5]; simp [go_sem, ss0, ss1, ss2, ss3, ss4, ss5, zz0, zz1, zz2, zz3, zz4, zz5, rr0, rr1, rr2, rr3, rr4, rr5, rr6, ss0', ss1', ss2', ss3', ss4', ss5', zz0', zz1', zz2', zz3', zz4', zz5', rr0', rr1', rr2', rr3', rr4', rr5', rr6']
      have a5 : W5.cell? ⟨w.heap.size, 5, none⟩ = some (.slice none 0 0) ∧ W5.frozen? ⟨w.heap.size, 5, none⟩ = false := by rw [hW5]; simp [go_sem, ss0, ss1, ss2, ss3, ss4, ss5, zz0, zz1, zz2, zz3, zz4, zz5, rr0, rr1, rr2, rr3, rr4, rr5, rr6, ss0', ss1', ss2', ss3', ss4', ss5', zz0', zz1', zz2', zz3', zz4', zz5', rr0', rr1', rr2', rr3', rr4', rr5', rr6']
      have y0 : W5.cell? ⟨w.heap.size + 1, 0, none⟩ = some (.int .i64 0) ∧ W5.frozen? ⟨w.heap.size + 1, 0, none⟩ = false := by rw [hW5]; simp [go_sem, ss0, ss1, ss2, ss3, ss4, ss5, zz0, zz1, zz2, zz3, zz4, zz5, rr0, rr1, rr2, rr3, rr4, rr5, rr6, ss0', ss1', ss2', ss3', ss4', ss5', zz0', zz1', zz2', zz3', zz4', zz5', rr0', rr1', rr2', rr3', rr4', rr5', rr6']
      have y1 : W5.cell? ⟨w.heap.size + 1, 1, none⟩ = some (.int .i64 0) ∧ W5.frozen? ⟨w.heap.size + 1, 1, none⟩ = false := by rw [hW5]; simp [go_sem, ss0, ss1, ss2, ss3, ss4, ss5, zz0, zz1, zz2, zz3, zz4, zz5, rr0, rr1, rr2, rr3, rr4, rr5, rr6, ss0', ss1', ss2', ss3', ss4', ss5', zz0', zz1', zz2', zz3', zz4', zz5', rr0', rr1', rr2', rr3', rr4', rr5', rr6']
      have y2 : W5.cell? ⟨w.heap.size + 1, 2, none⟩ = some (.slice none 0 0) ∧ W5.frozen? ⟨w.heap.size + 1, 2, none⟩ = false := by rw [hW5]; simp [go_sem, ss0, ss1, ss2, ss3, ss4, ss5, zz0, zz1, zz2, zz3, zz4, zz5, rr0, rr1, rr2, rr3, rr4, rr5, rr6, ss0', ss1', ss2', ss3', ss4', ss5', zz0', zz1', zz2', zz3', zz4', zz5', rr0', rr1', rr2', rr3', rr4', rr5', rr6']
      have y3 : W5.cell? ⟨w.heap.size + 1, 3, none⟩ = some (.bool false) ∧ W5.frozen? ⟨w.heap.size + 1, 3, none⟩ = false := by rw [hW5]; simp [go_sem, ss0, ss1, ss2, ss3, ss4, ss5, zz0, zz1, zz2, zz3, zz4, zz5, rr0, rr1, rr2, rr3, rr4, rr5, rr6, ss0', ss1', ss2', ss3', ss4', ss5', zz0', zz1', zz2', zz3', zz4', zz5', rr0', rr1', rr2', rr3', rr4', rr5', rr6']
      have y4 : W5.cell? ⟨w.heap.size + 1, 4, none⟩ = some (.int .i64 0) ∧ W5.frozen? ⟨w.heap.size + 1, 4, none⟩ = false := by rw [hW5]; simp [go_sem, ss0, ss1, ss2, ss3, ss4, ss5, zz0, zz1, zz2, zz3, zz4, zz5, rr0, rr1, rr2, rr3, rr4, rr5, rr6, ss0', ss1', ss2', ss3', ss4', ss5', zz0', zz1', zz2', zz3', zz4', zz5', rr0', rr1', rr2', rr3', rr4', rr5', rr6']
      have y5 : W5.cell? ⟨w.heap.size + 1, 5, none⟩ = some (.slice none 0 0) ∧ W5.frozen? ⟨w.heap.size + 1, 5, none⟩ = false := by rw [hW5]; simp [go_sem, ss0, ss1, ss2, ss3, ss4, ss5, zz0, zz1, zz2, zz3, zz4, zz5, rr0, rr1, rr2, rr3, rr4, rr5, rr6, ss0', ss1', ss2', ss3', ss4', ss5', zz0', zz1', zz2', zz3', zz4', zz5', rr0', rr1', rr2', rr3', rr4', rr5', rr6']
      have q0 : W5.cell? ⟨w.heap.size + 1 + 1, 0, none⟩ = some (.int .i64 0) ∧ W5.frozen? ⟨w.heap.size + 1 + 1, 0, none⟩ = false := by rw [hW5]; simp [go_sem, ss0, ss1, ss2, ss3, ss4, ss5, zz0, zz1, zz2, zz3, zz4, zz5, rr0, rr1, rr2, rr3, rr4, rr5, rr6, ss0', ss1', ss2', ss3', ss4', ss5', zz0', zz1', zz2', zz3', zz4', zz5', rr0', rr1', rr2', rr3', rr4', rr5', rr6']
      have q1 : W5.cell? ⟨w.heap.size + 1 + 1, 1, none⟩ = some (.int .i64 2) ∧ W5.frozen? ⟨w.heap.size + 1 + 1, 1, none⟩ = false := by rw [hW5]; simp [go_sem, ss0, ss1, ss2, ss3, ss4, ss5, zz0, zz1, zz2, zz3, zz4, zz5, rr0, rr1, rr2, rr3, rr4, rr5, rr6, ss0', ss1', ss2', ss3', ss4', ss5', zz0', zz1', zz2', zz3', zz4', zz5', rr0', rr1', rr2', rr3', rr4', rr5', rr6']
      have q2 : W5.cell? ⟨w.heap.size + 1 + 1, 2, none⟩ = some (.int .i64 1) ∧ W5.frozen? ⟨w.heap.size + 1 + 1, 2, none⟩ = false := by rw [hW5]; simp [go_sem, ss0, ss1, ss2, ss3, ss4, ss5, zz0, zz1, zz2, zz3, zz4, zz5, rr0, rr1, rr2, rr3, rr4, rr5, rr6, ss0', ss1', ss2', ss3', ss4', ss5', zz0', zz1', zz2', zz3', zz4', zz5', rr0', rr1', rr2', rr3', rr4', rr5', rr6']
      have q3 : W5.cell? ⟨w.heap.size + 1 + 1, 3, none⟩ = some (.int .i64 1) ∧ W5.frozen? ⟨w.heap.size + 1 + 1, 3, none⟩ = false := by rw [hW5]; simp [go_sem, ss0, ss1, ss2, ss3, ss4, ss5, zz0, zz1, zz2, zz3, zz4, zz5, rr0, rr1, rr2, rr3, rr4, rr5, rr6, ss0', ss1', ss2', ss3', ss4', ss5', zz0', zz1', zz2', zz3', zz4', zz5', rr0', rr1', rr2', rr3', rr4', rr5', rr6']
      have q4 : W5.cell? ⟨w.heap.size + 1 + 1, 4, none⟩ = some (.int .i64 5) ∧ W5.frozen? ⟨w.heap.size + 1 + 1, 4, none⟩ = false := by rw [hW5]; simp [go_sem, ss0, ss1, ss2, ss3, ss4, ss5, zz0, zz1, zz2, zz3, zz4, zz5, rr0, rr1, rr2, rr3, rr4, rr5, rr6, ss0', ss1', ss2', ss3', ss4', ss5', zz0', zz1', zz2', zz3', zz4', zz5', rr0', rr1', rr2', rr3', rr4', rr5', rr6']
      have q5 : W5.cell? ⟨w.heap.size + 1 + 1, 5, none⟩ = some (.int .i64 0) ∧ W5.frozen? ⟨w.heap.size + 1 + 1, 5, none⟩ = false := by rw [hW5]; simp [go_sem, ss0, ss1, ss2, ss3, ss4, ss5, zz0, zz1, zz2, zz3, zz4, zz5, rr0, rr1, rr2, rr3, rr4, rr5, rr6, ss0', ss1', ss2', ss3', ss4', ss5', zz0', zz1', zz2', zz3', zz4', zz5', rr0', rr1', rr2', rr3', rr4', rr5', rr6']
      have q6 : W5.cell? ⟨w.heap.size + 1 + 1, 6, none⟩ = some (.int .i64 0) ∧ W5.frozen? ⟨w.heap.size + 1 + 1, 6, none⟩ = false := by rw [hW5]; simp [go_sem, ss0, ss1, ss2, ss3, ss4, ss5, zz0, zz1, zz2, zz3, zz4, zz5, rr0, rr1, rr2, rr3, rr4, rr5, rr6, ss0', ss1', ss2', ss3', ss4', ss5', zz0', zz1', zz2', zz3', zz4', zz5', rr0', rr1', rr2', rr3', rr4', rr5', rr6']
      have hx5W : Ex w W5 := by rw [hW5]; with_reducible (repeat' first | exact hx05 | refine Ex.set ?_ (by simp only; omega) _)
      have hr5W : Rd eI W5 (some ⟨n5, 0, none⟩) 1 [5] := by
        rw [hW5]
        with_reducible
          repeat' first
            | exact hr5
            | refine Rd.grown ?_ (gb_setp _ _ _) (fun a ha e => by cases ha; have := Option.some.inj e; have h5 := hx4.le; simp at h5; simp only at this; omega)
      have hsz : w.heap.size + 1 < W5.heap.size := by have h := World.block_lt_of_cell? _ _ zz0; rw [hW5]; simpa using h
      have hnn : w.heap.size + 1 < n5 := by have h5 := hx4.le; simp at h5; omega
      rw [← hW5]
      clear hW5
      obtain ⟨ad0, ae0⟩ := (Ex.refl W5).drew.both a0
      obtain ⟨ad1, ae1⟩ := (Ex.refl W5).drew.both a1
      obtain ⟨ad2, ae2⟩ := (Ex.refl W5).drew.both a2
      obtain ⟨ad3, ae3⟩ := (Ex.refl W5).drew.both a3
      obtain ⟨ad4, ae4⟩ := (Ex.refl W5).drew.both a4
      obtain ⟨ad5, ae5⟩ := (Ex.refl W5).drew.both a5
      obtain ⟨yd0, ye0⟩ := (Ex.refl W5).drew.both y0
      obtain ⟨yd1, ye1⟩ := (Ex.refl W5).drew.both y1
      obtain ⟨yd2, ye2⟩ := (Ex.refl W5).drew.both y2
      obtain ⟨yd3, ye3⟩ := (Ex.refl W5).drew.both y3
      obtain ⟨yd4, ye4⟩ := (Ex.refl W5).drew.both y4
      obtain ⟨yd5, ye5⟩ := (Ex.refl W5).drew.both y5
      obtain ⟨qd0, qe0⟩ := (Ex.refl W5).drew.both q0
      obtain ⟨qd1, qe1⟩ := (Ex.refl W5).drew.both q1
      obtain ⟨qd2, qe2⟩ := (Ex.refl W5).drew.both q2
      obtain ⟨qd3, qe3⟩ := (Ex.refl W5).drew.both q3
      obtain ⟨qd4, qe4⟩ := (Ex.refl W5).drew.both q4
      obtain ⟨qd5, qe5⟩ := (Ex.refl W5).drew.both q5
      obtain ⟨qd6, qe6⟩ := (Ex.refl W5).drew.both q6
      clear a0 a1 a2 a3 a4 a5 y0 y1 y2 y3 y4 y5 q0 q1 q2 q3 q4 q5 q6
      go_region_law (go_simp; go_at_call 60; go_loud (refine (note_nil rc0 _).mono ?_); rintro e W6 ⟨D, d2, rfl, hr6, hn6, hx6⟩; (obtain ⟨af0, ag0⟩ := hx6.both ⟨ad0, ae0⟩); (obtain ⟨af1, ag1⟩ := hx6.both ⟨ad1, ae1⟩); (obtain ⟨af2, ag2⟩ := hx6.both ⟨ad2, ae2⟩); (obtain ⟨af3, ag3⟩ := hx6.both ⟨ad3, ae3⟩); (obtain ⟨af4, ag4⟩ := hx6.both ⟨ad4, ae4⟩); (obtain ⟨af5, ag5⟩ := hx6.both ⟨ad5, ae5⟩); (obtain ⟨yf0, yg0⟩ := hx6.both ⟨yd0, ye0⟩); (obtain ⟨yf1, yg1⟩ := hx6.both ⟨yd1, ye1⟩); (obtain ⟨yf2, yg2⟩ := hx6.both ⟨yd2, ye2⟩); (obtain ⟨yf3, yg3⟩ := hx6.both ⟨yd3, ye3⟩); (obtain ⟨yf4, yg4⟩ := hx6.both ⟨yd4, ye4⟩); (obtain ⟨yf5, yg5⟩ := hx6.both ⟨yd5, ye5⟩))
      all_goals
        have hx5d : Ex w W5.drew := hx5W.drew
        have hr6' : Rd eE W6 D d2 [⟨2, 1, 0⟩] := hr6
        go_wp2_with fail
        go_roundw
        case rel =>
          refine .inr ⟨rfl, some ⟨n5, 0, none⟩, D, 1, d2, ⟨by simp [go_sem, af0, af1, af2, af3, af4, af5, ag0, ag5], by simp [go_sem, af0, af1, af2, af3, af4, af5, ag0, ag5], by simp [go_sem, af0, af1, af2, af3, af4, af5, ag0, ag5], by simp [go_sem, af0, af1, af2, af3, af4, af5, ag0, ag5], by simp [go_sem, af0, af1, af2, af3, af4, af5, ag0, ag5], by simp [go_sem, af0, af1, af2, af3, af4, af5, ag0, ag5]⟩, ?_⟩
          refine ⟨by simp [go_sem, yf0], by simp [go_sem, yg0], by simp [go_sem, yf1], by simp [go_sem, yg1], by simp [go_sem, yf2], by simp [go_sem, yg2], by simp [go_sem, yf3], by simp [go_sem, yg3], by simp [go_sem, yf4], by simp [go_sem, yg4], by simp [go_sem, yf5], by simp [go_sem, yg5], ?_, ?_, fun a ha => by cases ha; exact hnn, fun a ha => by have := hn6 a ha; simp at this; omega, ((hx5d.trans hx6).set (Nat.le_refl _) _).set (Nat.le_refl _) _⟩
          · with_reducible
              repeat' first
                | exact (hr5W.ex (Ex.refl W5).drew).ex hx6
                | refine Rd.grown ?_ (gb_setp _ _ _) (fun a ha e => by cases ha; have := Option.some.inj e; simp only at this; omega)
          · with_reducible
              repeat' first
                | exact hr6'
                | refine Rd.grown ?_ (gb_setp _ _ _) (fun a ha e => by have h7 := hn6 a ha; simp at h7; have := Option.some.inj e; simp only at this; omega)
        case measure => simp [intOf]
    · obtain ⟨C, D, c2, d2, ⟨q0, q1, q2, q3, q4, q5⟩, p0, f0, p1, f1, p2, f2, p3, f3, p4, f4, p5, f5, hrC, hrD, hnC, hnD, hxr⟩ := hfin
      have hwr : w.heap.size + 1 < wr.heap.size := World.block_lt_of_cell? _ _ p0
      go_wp2_with fail
      refine bodyPost_ret (v := .tuple #[.agg #[.int .i64 1, .int .i64 0, .slice C 1 c2, .bool false, .int .i64 0, .slice D 1 d2], .int .i64 0]) (by simp [results, Tryz.results27, go_sem, p0, p1, p2, p3, p4, p5, hwr]) rfl ⟨C, D, c2, d2, rfl, ?_, ?_, ?_⟩
      · with_reducible
          repeat' first
            | exact hrC
            | refine Rd.grown ?_ (gb_setp _ _ _) (fun a ha e => by have h7 := hnC a ha; have := Option.some.inj e; simp only at this; omega)
      · with_reducible
          repeat' first
            | exact hrD
            | refine Rd.grown ?_ (gb_setp _ _ _) (fun a ha e => by have h7 := hnD a ha; have := Option.some.inj e; simp only at this; omega)
      · with_reducible (repeat' first | exact hxr | refine Ex.set ?_ (by simp only; omega) _)
end Go.Proofs.YtdghbnkegahdnaaGreat.B
