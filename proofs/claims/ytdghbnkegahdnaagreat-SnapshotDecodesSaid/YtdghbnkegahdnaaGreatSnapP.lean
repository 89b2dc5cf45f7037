/- Snapshots as bytes: what is decoded is what was encoded, and the other way round. No program in sight. -/
import Derived.Test.YtdghbnkegahdnaaGreatNumP
import Derived.Test.YtdghbnkegahdnaaGreatSnap
set_option linter.unusedVariables false
set_option linter.unusedSimpArgs false
namespace Go.Proofs.YtdghbnkegahdnaaGreat.B
open Go

theorem getE_put (e : Ent) (h : fitsE e = true) (r : List UInt8) : getE (entB e ++ r) = (e, (entB e).length) := by
  have hf := (fitsE_iff e).1 h
  have h1 : get (entB e ++ r) = (e.proc.toNat, (put e.proc).length) := by
    rw [entB, List.append_assoc, List.append_assoc]; exact get_put _ hf.1 (by omega) _
  have d1 : (entB e ++ r).drop (put e.proc).length = put e.seq ++ (putS e.resp ++ r) := by
    rw [entB, List.append_assoc, List.append_assoc, List.drop_left' rfl]
  have h2 := get_put e.seq (by omega) (by omega) (putS e.resp ++ r)
  have h3 := getS_putS e.resp (by omega) (by omega) r
  have p1 := put_pos e.proc hf.1 (by omega)
  have p2 := put_pos e.seq (by omega) (by omega)
  have p3 := putS_pos e.resp
  unfold getE
  simp only [h1, d1, h2, List.drop_left' rfl, h3]
  rw [if_neg (by omega), Int.toNat_of_nonneg hf.1, Int.toNat_of_nonneg (by omega)]
  simp [entB]; omega
theorem getE_ok {l : List UInt8} (h : (getE l).2 ≠ 0) : l = entB (getE l).1 ++ l.drop (getE l).2 := by
  unfold getE at h ⊢
  simp only at h ⊢
  split
  · rename_i h1; rw [if_pos h1] at h; exact absurd rfl h
  · rename_i h1
    have e1 := get_split (l := l) (fun e => h1 (.inl e))
    have e2 := get_split (l := l.drop (get l).2) (fun e => h1 (.inr (.inl e)))
    have e3 := getS_split (l := (l.drop (get l).2).drop (get (l.drop (get l).2)).2) (fun e => h1 (.inr (.inr e)))
    simp only [entB, List.append_assoc]
    simp only [List.drop_drop] at e2 e3 ⊢
    rw [← e3, ← e2]
    exact e1
theorem getEs_put : ∀ (t : List Ent) (r : List UInt8), (∀ e ∈ t, fitsE e = true) → getEs t.length (t.flatMap entB ++ r) = some (t, r)
  | [], r, _ => rfl
  | e :: t, r, h => by
    have he := h e (by simp)
    have e1 : (e :: t).flatMap entB ++ r = entB e ++ (t.flatMap entB ++ r) := by simp
    have p1 := put_pos e.proc ((fitsE_iff e).1 he).1 (by have := (fitsE_iff e).1 he; omega)
    have hp : (entB e).length ≠ 0 := by simp only [entB, List.length_append]; omega
    rw [e1, List.length_cons, getEs, getE_put e he, if_neg hp]
    simp only
    rw [List.drop_left' rfl, getEs_put t r (fun x hx => h x (by simp [hx]))]
    rfl
theorem getEs_ok : ∀ (n : Nat) (l : List UInt8) (t : List Ent) (r : List UInt8), getEs n l = some (t, r) → t.length = n ∧ l = t.flatMap entB ++ r
  | 0, l, t, r, h => by simp only [getEs, Option.some.injEq, Prod.mk.injEq] at h; rw [← h.1, ← h.2]; exact ⟨rfl, rfl⟩
  | n + 1, l, t, r, h => by
    rw [getEs] at h
    split at h
    · cases h
    · rename_i h1
      obtain ⟨⟨t', r'⟩, hg, he⟩ := Option.map_eq_some_iff.1 h
      simp only [Prod.mk.injEq] at he
      obtain ⟨rfl, rfl⟩ := he
      have ih := getEs_ok n _ _ _ hg
      refine ⟨by simp only [List.length_cons]; omega, ?_⟩
      simp only [List.flatMap_cons, List.append_assoc]
      rw [← ih.2]
      exact getE_ok h1
theorem readM_man (ix : Int) (w : List UInt8) (h0 : 0 ≤ ix) (h1 : ix < 4611686018427387904) (hw : w.length < 4611686018427387904) (hs : sum w < 4294967296) : readM (manB ix w) = (ix.toNat, w.length, sum w, 0) := by
  have g1 := get_putN 3 (by omega) (put ix ++ (put w.length ++ fix (sum w) 4))
  have g2 := get_put ix h0 h1 (put w.length ++ fix (sum w) 4)
  have g3 := get_putN w.length hw (fix (sum w) 4)
  have p1 := put_pos ((3 : Nat) : Int) (by omega) (by omega)
  have p2 := put_pos ix h0 h1
  have p3 := put_pos (w.length : Int) (by omega) (by omega)
  have ht : (fix (sum w) 4).take 8 = fix (sum w) 4 := List.take_of_length_le (by rw [fix_len]; decide)
  have hd : (manB ix w).drop 1 = put ((3 : Nat) : Int) ++ (put ix ++ (put w.length ++ fix (sum w) 4)) := by simp [manB]
  unfold readM
  rw [if_neg (by simp [manB])]
  simp only [hd, g1, List.drop_left' rfl, g2, g3]
  rw [if_neg (by omega), if_neg (by decide), if_neg (by rw [fix_len]; decide), ht, fixed_fix, Nat.mod_eq_of_lt (by simpa using hs)]
theorem readM_ok {d : List UInt8} {x n s : Nat} (h : readM d = (x, n, s, 0)) : d = 115 :: (put 3 ++ put (x : Int) ++ put (n : Int) ++ fix s 4) ∧ x < 4611686018427387904 := by
  unfold readM at h
  split at h
  · cases h
  · rename_i h0
    simp only at h
    split at h
    · cases h
    · rename_i h1
      split at h
      · cases h
      · rename_i h2
        split at h
        · cases h
        · rename_i h3
          simp only [Prod.mk.injEq, and_true] at h
          have e1 := get_split (l := d.drop 1) (fun e => h1 (.inl e))
          have e2 := get_split (l := (d.drop 1).drop (get (d.drop 1)).2) (fun e => h1 (.inr (.inl e)))
          have e3 := get_split (l := ((d.drop 1).drop (get (d.drop 1)).2).drop (get ((d.drop 1).drop (get (d.drop 1)).2)).2) (fun e => h1 (.inr (.inr e)))
          have hl := Classical.byContradiction h3
          have hl4 := Classical.byContradiction (fun e => h3 e)
          have h2' : (get (d.drop 1)).1 = 3 := Classical.byContradiction h2
          have hx := get_lt ((d.drop 1).drop (get (d.drop 1)).2)
          have ef : fix s 4 = (((d.drop 1).drop (get (d.drop 1)).2).drop (get ((d.drop 1).drop (get (d.drop 1)).2)).2).drop (get (((d.drop 1).drop (get (d.drop 1)).2).drop (get ((d.drop 1).drop (get (d.drop 1)).2)).2)).2 := by
            rw [← h.2.2, List.take_of_length_le (by rw [hl]; decide)]
            have := fix_fixed ((((d.drop 1).drop (get (d.drop 1)).2).drop (get ((d.drop 1).drop (get (d.drop 1)).2)).2).drop (get (((d.drop 1).drop (get (d.drop 1)).2).drop (get ((d.drop 1).drop (get (d.drop 1)).2)).2)).2)
            rwa [hl] at this
          rw [h2', show ((3 : Nat) : Int) = 3 from rfl] at e1
          rw [h.1] at e2 hx
          rw [h.2.1, ← ef] at e3
          refine ⟨?_, hx⟩
          cases d with
          | nil => exact absurd (.inl rfl) h0
          | cons c r =>
            have hc : c = 115 := Classical.byContradiction fun hc => h0 (.inr hc)
            rw [hc]
            simp only [List.drop_succ_cons, List.drop_zero] at e1 e2 e3 ⊢
            rw [List.append_assoc, List.append_assoc, ← e3, ← e2, ← e1]
theorem chunks_ok (w : List UInt8) : (chunks w).flatten = w ∧ cutN (chunks w) = true ∧ ∀ d ∈ chunks w, d.length ≤ 64 := by
  by_cases h : w = []
  · subst h; rw [chunks_nil]; simp [cutN]
  · have hp := List.length_pos_iff.2 h
    have ih := chunks_ok (w.drop 64)
    rw [chunks_cons h]
    refine ⟨by rw [List.flatten_cons, ih.1, List.take_append_drop], ?_, ?_⟩
    · rw [cutN, if_neg, ih.2.1]
      rw [List.length_take]
      rintro (h1 | h1 | ⟨h1, h2⟩)
      · omega
      · omega
      · apply h2
        have : w.drop 64 = [] := List.drop_of_length_le (by omega)
        rw [this, chunks_nil]
    · intro d hd
      rcases List.mem_cons.1 hd with rfl | hd
      · rw [List.length_take]; omega
      · exact ih.2.2 d hd
  termination_by w.length
  decreasing_by rw [List.length_drop]; omega
theorem cutN_chunks : ∀ (r : List (List UInt8)), cutN r = true → r = chunks r.flatten
  | [], _ => by rw [List.flatten_nil, chunks_nil]
  | d :: r, h => by
    rw [cutN] at h
    split at h
    · cases h
    · rename_i h1
      have ih := cutN_chunks r h
      have hne : (d :: r).flatten ≠ [] := by
        rw [List.flatten_cons]
        intro e
        have := congrArg List.length e
        rw [List.length_append] at this
        simp at this
        exact h1 (.inl (by rw [this.1]; rfl))
      have hr : d.length < 64 → r = [] := fun hl => Classical.byContradiction fun hr => h1 (.inr (.inr ⟨hl, hr⟩))
      have hd : d.length ≤ 64 := by
        rcases Nat.lt_or_ge 64 d.length with h2 | h2
        · exact absurd (.inr (.inl h2)) h1
        · exact h2
      rw [chunks_cons hne, List.flatten_cons]
      rcases Nat.lt_or_ge d.length 64 with hl | hl
      · have := hr hl
        subst this
        rw [List.flatten_nil, List.append_nil, List.take_of_length_le (by omega), List.drop_of_length_le (by omega), chunks_nil]
      · have : d.length = 64 := by omega
        rw [List.take_left' this, List.drop_left' this, ← ih]
theorem ents_len : ∀ (t : List Ent), (∀ e ∈ t, fitsE e = true) → t.length ≤ (t.flatMap entB).length
  | [], _ => by simp
  | a :: t, ht => by
    have q1 := put_pos a.proc ((fitsE_iff a).1 (ht a (by simp))).1 (by have := (fitsE_iff a).1 (ht a (by simp)); omega)
    have q2 := ents_len t (fun x hx => ht x (by simp [hx]))
    rw [List.flatMap_cons, List.length_append, List.length_cons]
    have q3 : (entB a).length = (put a.proc).length + (put a.seq).length + (putS a.resp).length := by simp only [entB, List.length_append]
    omega
theorem readN_whole (s : Snp) (h : mayN s = true) : readN (wholeN s) = (⟨0, s.st, s.tab⟩, 0) := by
  have hm := (mayN_iff s).1 h
  have hsb : stB s.st = encS s.st := by unfold stB; rw [if_pos hm.2.2.1]
  have hl := encS_len s.st hm.2.2.1
  have ht := tabA_all _ _ hm.2.2.2
  have hn := tabA_len s.tab (-1) (by omega) hm.2.2.2
  have hn2 : s.tab.length ≤ 65 := by
    rcases hn with h1 | h1
    · rw [h1]; decide
    · omega
  have e : wholeN s = put ((encS s.st).length : Int) ++ (encS s.st ++ (put (s.tab.length : Int) ++ (s.tab.flatMap entB ++ []))) := by
    rw [wholeN, hsb]; simp
  have g1 := get_putN (encS s.st).length (by omega) (encS s.st ++ (put (s.tab.length : Int) ++ (s.tab.flatMap entB ++ [])))
  have g2 := get_putN s.tab.length (by omega) (s.tab.flatMap entB ++ [])
  have g3 := getEs_put s.tab [] ht
  have p1 := put_pos ((encS s.st).length : Int) (by omega) (by omega)
  have p2 := put_pos (s.tab.length : Int) (by omega) (by omega)
  have hlen := ents_len s.tab ht
  have t1 : ((wholeN s).take ((put ((encS s.st).length : Int)).length + (encS s.st).length)).drop (put ((encS s.st).length : Int)).length = encS s.st := by
    rw [e, ← List.append_assoc, List.take_left' (by simp), List.drop_left' rfl]
  have t2 : (wholeN s).drop ((put ((encS s.st).length : Int)).length + (encS s.st).length) = put (s.tab.length : Int) ++ (s.tab.flatMap entB ++ []) := by
    rw [e, ← List.append_assoc, List.drop_left' (by simp)]
  have gw : get (wholeN s) = ((encS s.st).length, (put ((encS s.st).length : Int)).length) := by rw [e]; exact g1
  unfold readN
  simp only [gw, t1, t2, decS_encS s.st hm.2.2.1, g2, List.drop_left' rfl, g3]
  rw [if_neg (by rw [e]; simp only [List.length_append]; omega), if_neg (by decide), if_neg (by simp only [List.length_append]; omega)]
  rfl
theorem readN_ok {w : List UInt8} {s : Snp} (h : readN w = (s, 0)) : s.index = 0 ∧ mayS s.st = true ∧ wholeN s = w := by
  unfold readN at h
  simp only at h
  split at h
  · cases h
  · rename_i h1
    split at h
    · cases h
    · rename_i h2
      split at h
      · cases h
      · rename_i h3
        generalize hst : decS ((w.take ((get w).2 + (get w).1)).drop (get w).2) = st at h h2
        generalize hges : getEs (get (w.drop ((get w).2 + (get w).1))).1 ((w.drop ((get w).2 + (get w).1)).drop (get (w.drop ((get w).2 + (get w).1))).2) = ges at h
        cases ges with
        | none => cases h
        | some p =>
          simp only [endN] at h
          split at h
          · cases h
          · rename_i h4
            simp only [Prod.mk.injEq] at h
            have hs := decS_ok (l := (w.take ((get w).2 + (get w).1)).drop (get w).2) (s := st.1) (by rw [hst, ← h.2])
            have hp : p.2 = [] := List.eq_nil_of_length_eq_zero (by omega)
            have hg := getEs_ok _ _ p.1 p.2 hges
            rw [hp, List.append_nil] at hg
            have e1 := get_split (l := w) (fun e => h1 (.inl e))
            have e2 := get_split (l := w.drop ((get w).2 + (get w).1)) (fun e => h3 (.inl e))
            rw [← h.1]
            refine ⟨rfl, hs.1, ?_⟩
            unfold wholeN
            simp only
            rw [show stB st.1 = encS st.1 from if_pos hs.1, hg.1, hs.2, ← hg.2, List.append_assoc, ← e2]
            have hl : ((w.take ((get w).2 + (get w).1)).drop (get w).2).length = (get w).1 := by rw [List.length_drop, List.length_take]; omega
            rw [hl, put_get (fun e => h1 (.inl e))]
            have : w.take (get w).2 = (w.take ((get w).2 + (get w).1)).take (get w).2 := by rw [List.take_take]; congr 1; omega
            rw [this, List.take_append_drop, List.take_append_drop]
theorem sum_lt (l : List UInt8) : sum l < 4294967296 := more_lt 0 l
theorem encN_eq (s : Snp) : encN s = (manB s.index (wholeN s) :: chunks (wholeN s)).flatMap encF := by simp [encN]
theorem decN_encN (s : Snp) (h : mayN s = true) : decN (encN s) = (s, 0) := by
  have hm := (mayN_iff s).1 h
  have hwl := wholeN_len s h
  have hc := chunks_ok (wholeN s)
  have ha := allF_enc (manB s.index (wholeN s) :: chunks (wholeN s)) (by
    intro d hd
    rcases List.mem_cons.1 hd with rfl | hd
    · have := manB_len s.index (wholeN s); omega
    · have := hc.2.2 d hd; omega)
  have hr := readM_man s.index (wholeN s) hm.1 hm.2.1 (by omega) (sum_lt _)
  have hst : (⟨(s.index.toNat : Int), s.st, s.tab⟩ : Snp) = s := by rw [Int.toNat_of_nonneg hm.1]
  unfold decN
  rw [encN_eq, ha]
  simp only [hr, hc.1, hc.2.1, readN_whole s h, hst, h]
  simp
theorem decN_ok {b : List UInt8} {s : Snp} (h : decN b = (s, 0)) : mayN s = true ∧ encN s = b := by
  unfold decN at h
  split at h
  · rename_i h0
    simp only [Prod.mk.injEq] at h
    exact absurd h.2 h0
  · rename_i h0
    have h0' : (allF b).2 = 0 := Classical.byContradiction h0
    generalize hds : (allF b).1 = ds at h
    have ha : allF b = (ds, 0) := by rw [← hds, ← h0']
    have hb := allF_ok ha
    cases ds with
    | nil => cases h
    | cons d r =>
      simp only at h
      split at h
      · rename_i h1
        simp only [Prod.mk.injEq] at h
        exact absurd h.2 h1
      · rename_i h1
        have h1' : (readM d).2.2.2 = 0 := Classical.byContradiction h1
        have hrm := readM_ok (d := d) (x := (readM d).1) (n := (readM d).2.1) (s := (readM d).2.2.1) (by rw [← h1'])
        split at h
        · cases h
        · rename_i h2
          split at h
          · cases h
          · rename_i h3
            split at h
            · cases h
            · rename_i h4
              split at h
              · rename_i h5
                simp only [Prod.mk.injEq] at h
                exact absurd h.2 h5
              · rename_i h5
                split at h
                · cases h
                · rename_i h6
                  simp only [Prod.mk.injEq, and_true] at h
                  have hmay : mayN s = true := by rw [← h]; simpa using h6
                  have hrd := readN_ok (w := r.flatten) (s := (readN r.flatten).1) (by rw [← Classical.byContradiction h5])
                  have hcut := cutN_chunks r (by simpa using h3)
                  have hw : wholeN s = r.flatten := by rw [← h]; exact hrd.2.2
                  refine ⟨hmay, ?_⟩
                  rw [encN_eq, hw, ← hcut, hb.1]
                  congr 2
                  rw [hrm.1, ← h]
                  unfold manB
                  simp only
                  rw [← Classical.byContradiction h2, ← Classical.byContradiction h4]
theorem flat_len_eq (a b : List UInt8) (h : a.length = b.length) : ((chunks a).flatMap encF).length = ((chunks b).flatMap encF).length := by
  by_cases ha : a = []
  · subst ha
    have : b = [] := List.eq_nil_of_length_eq_zero (by rw [← h]; rfl)
    rw [this]
  · have hb : b ≠ [] := by intro e; subst e; exact ha (List.eq_nil_of_length_eq_zero h)
    have hp := List.length_pos_iff.2 ha
    have ih := flat_len_eq (a.drop 64) (b.drop 64) (by simp [h])
    rw [chunks_cons ha, chunks_cons hb, List.flatMap_cons, List.flatMap_cons, List.length_append, List.length_append, ih]
    have h1 : (a.take 64).length = (b.take 64).length := by simp [h]
    have h2 : (a.take 64).length ≤ 64 := by rw [List.length_take]; omega
    rw [encF_ok (by omega), encF_ok (by omega), frameB_len, frameB_len, h1]
  termination_by a.length
  decreasing_by rw [List.length_drop]; omega
/-- No encoding is a beginning of another one. -/
theorem encN_prefix {s t : Snp} (hs : mayN s = true) (ht : mayN t = true) {more : List UInt8} (h : encN t = encN s ++ more) : more = [] := by
  have ms := manB_len s.index (wholeN s)
  have mt := manB_len t.index (wholeN t)
  have h1 := decF_encF (manB s.index (wholeN s)) ((chunks (wholeN s)).flatMap encF ++ more) (by omega)
  have h2 := decF_encF (manB t.index (wholeN t)) ((chunks (wholeN t)).flatMap encF) (by omega)
  have e1 : encF (manB s.index (wholeN s)) ++ ((chunks (wholeN s)).flatMap encF ++ more) = encN s ++ more := by simp [encN]
  have e2 : encF (manB t.index (wholeN t)) ++ (chunks (wholeN t)).flatMap encF = encN t := rfl
  rw [e1] at h1
  rw [e2, h, h1] at h2
  simp only [Prod.mk.injEq, and_true] at h2
  have ws := wholeN_len s hs
  have wt := wholeN_len t ht
  have hms := (mayN_iff s).1 hs
  have hmt := (mayN_iff t).1 ht
  have r1 := readM_man s.index (wholeN s) hms.1 hms.2.1 (by omega) (sum_lt _)
  have r2 := readM_man t.index (wholeN t) hmt.1 hmt.2.1 (by omega) (sum_lt _)
  rw [← h2.1, r1] at r2
  simp only [Prod.mk.injEq, and_true] at r2
  have hl := flat_len_eq (wholeN s) (wholeN t) r2.2.1
  have := congrArg List.length h
  simp only [encN, List.length_append] at this
  exact List.eq_nil_of_length_eq_zero (by omega)
theorem decN_cut (s : Snp) (h : mayN s = true) (k : Nat) (hk : k < (encN s).length) : (decN ((encN s).take k)).2 ≠ 0 := by
  intro h0
  have hd := decN_ok (b := (encN s).take k) (s := (decN ((encN s).take k)).1) (by rw [← h0])
  have := encN_prefix hd.1 h (more := (encN s).drop k) (by rw [hd.2, List.take_append_drop])
  have := congrArg List.length this
  rw [List.length_drop] at this
  simp at this
  omega
theorem decN_more (s : Snp) (h : mayN s = true) (more : List UInt8) (hm : more ≠ []) : (decN (encN s ++ more)).2 ≠ 0 := by
  intro h0
  have hd := decN_ok (b := encN s ++ more) (s := (decN (encN s ++ more)).1) (by rw [← h0])
  exact hm (encN_prefix h hd.1 hd.2)
end Go.Proofs.YtdghbnkegahdnaaGreat.B
