/- The walks of package snapshot, fifth part: read, Decode, Same. -/
import Derived.Test.YtdghbnkegahdnaaGreatSnapQ
set_option linter.unusedVariables false
set_option linter.unusedSimpArgs false
set_option maxRecDepth 100000
set_option maxHeartbeats 2000000
namespace Go.Proofs.YtdghbnkegahdnaaGreat.B
open Go Go.RowKit Go.Proofs

theorem snap_read (A : Option Addr) (c : Nat) (b : List UInt8) (w : World) (hr : Rd eB w A c b) (hl : b.length ≤ 1000000000000) :
    Calls Tryz.prog 34 #[.slice A b.length c] w (ReadR b w) := by
  obtain ⟨n, hn⟩ : ∃ n, n = (get b).1 := ⟨_, rfl⟩
  obtain ⟨k, hk⟩ : ∃ k, k = (get b).2 := ⟨_, rfl⟩
  have hkl : k ≤ b.length := by rw [hk]; exact get_le b
  by_cases h1 : k = 0
  · exact snap_read_1 A c b w hr hl n k hn hk hkl (.inl (by rw [h1]; rfl))
  · have h1b : ((k : Int) == 0) = false := by rw [beq_eq_false_iff_ne]; omega
    by_cases h2 : b.length < k + n
    · exact snap_read_1 A c b w hr hl n k hn hk hkl (.inr ⟨h1b, by omega⟩)
    · obtain ⟨y, hy⟩ : ∃ y, y = (b.take (k + n)).drop k := ⟨_, rfl⟩
      obtain ⟨v, hv⟩ : ∃ v, v = b.drop (k + n) := ⟨_, rfl⟩
      obtain ⟨m, hm⟩ : ∃ m, m = (get v).1 := ⟨_, rfl⟩
      obtain ⟨j, hj⟩ : ∃ j, j = (get v).2 := ⟨_, rfl⟩
      have hjl : j ≤ v.length := by rw [hj]; exact get_le v
      have hnlt : n < 4611686018427387904 := by rw [hn]; exact get_lt b
      have hspec : readN b = if (decS y).2 = 3 then (snZ, 3) else if j = 0 ∨ v.length < m then (snZ, 3) else
          endN (decS y).1 (decS y).2 (getEs m (v.drop j)) := by
        unfold readN
        simp only [← hn, ← hk, ← hy, ← hv, ← hm, ← hj]
        rw [if_neg (by omega)]
      by_cases h3 : (decS y).2 = 3
      · exact snap_read_2 A c b w hr hl n k hn hk (by omega) h1b hnlt y hy _ rfl v hv m j hm hj hjl (.inl ⟨by rw [h3]; rfl, by rw [Hid, hspec, if_pos h3]⟩)
      · have h3b : ((decS y).2 == 3) = false := by rw [beq_eq_false_iff_ne]; exact h3
        rw [if_neg h3] at hspec
        by_cases h4 : j = 0
        · exact snap_read_2 A c b w hr hl n k hn hk (by omega) h1b hnlt y hy _ rfl v hv m j hm hj hjl (.inr (.inl ⟨h3b, by rw [h4]; rfl, by rw [Hid, hspec, if_pos (.inl h4)]⟩))
        · have h4b : ((j : Int) == 0) = false := by rw [beq_eq_false_iff_ne]; omega
          by_cases h5 : v.length < m
          · exact snap_read_2 A c b w hr hl n k hn hk (by omega) h1b hnlt y hy _ rfl v hv m j hm hj hjl (.inr (.inr ⟨h3b, h4b, h5, by rw [Hid, hspec, if_pos (.inr h5)]⟩))
          · exact snap_read_3 A c b w hr hl n k hn hk (by omega) h1b y hy _ rfl v hv m j hm hj hjl _ rfl h3b h4b h5 (by rw [Hid, hspec, if_neg (by omega)])
end Go.Proofs.YtdghbnkegahdnaaGreat.B
