/- Each readable block has 64 bytes: what the log's walks ask of the disk. No Go in sight. -/
import Derived.Test.YtddaiihhhajieaaLogRead
import Derived.Test.YtddaiihhhajieaaRefAgree
namespace Go.Proofs.Ytddaiihhhajieaa

structure Full (D : Dk) : Prop where
  last : ∀ n, (D.last n).size = 64
  wait : ∀ p ∈ D.wait, p.2.size = 64
theorem full_new : Full Dk.new := ⟨fun _ => zs_size 64, fun p hp => by simp [Dk.new] at hp⟩
theorem full_wr {D : Dk} (h : Full D) (n : Int) (s : ByteArray) : Full (D.wr n s).2 := by
  unfold Dk.wr
  split
  · exact h
  split
  · exact h
  rename_i hb
  split
  · exact ⟨h.last, h.wait⟩
  · refine ⟨h.last, fun p hp => ?_⟩
    rcases List.mem_append.1 hp with hp | hp
    · exact h.wait p hp
    · obtain rfl : p = (n.toNat, s) := by simpa using hp
      show s.size = 64
      omega
theorem full_dones {D : Dk} {l : List (Nat × ByteArray)} (hl : ∀ p ∈ l, p.2.size = 64) (h : ∀ n, (D.last n).size = 64) (n : Nat) : ((D.dones l).last n).size = 64 := by
  rw [dones_last]
  cases hw : lookW l n with
  | none => exact h n
  | some s => exact hl _ (lookW_mem hw)
theorem full_sync {D : Dk} (h : Full D) : Full D.sync.2 := by
  unfold Dk.sync
  split
  · exact h
  split
  · exact ⟨h.last, h.wait⟩
  · exact ⟨full_dones h.wait h.last, fun p hp => by simp at hp⟩
theorem full_restart {D : Dk} (h : Full D) (keep : Int) (torn : Bool) : Full (D.restart keep torn) :=
  ⟨full_dones (fun p hp => h.wait p (List.mem_of_mem_take hp)) h.last, fun p hp => by simp [Dk.restart] at hp⟩
theorem full_armed {D : Dk} (h : Full D) (n : Int) : Full (D.armed n) := ⟨h.last, h.wait⟩
theorem Full.whole {D : Dk} (h : Full D) : Whole D := by
  intro n he
  unfold Dk.rd at he ⊢
  split at he
  · simp at he
  split at he
  · simp at he
  rename_i h1 h2
  rw [if_neg h1, if_neg h2]
  cases hw : lookW D.wait (n : Int).toNat with
  | some s => exact h.wait _ (lookW_mem hw)
  | none =>
    rw [hw] at he
    simp only at he ⊢
    split at he
    · simp at he
    · rename_i h3
      rw [if_neg h3]
      exact h.last _
end Go.Proofs.Ytddaiihhhajieaa
