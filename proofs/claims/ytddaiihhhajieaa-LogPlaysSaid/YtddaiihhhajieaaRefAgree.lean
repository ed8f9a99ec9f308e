/- The document's disk against the program's: what is read is alike; no Go in sight. -/
import Derived.Test.YtddaiihhhajieaaRefW3
namespace Go.Proofs.Ytddaiihhhajieaa

/-- what a read of the document's disk yields -/
def rrd (D : Dk) (L : List (Nat × ByteArray)) (n : Int) : ByteArray × Int :=
  if D.off = true then (ByteArray.empty, 21)
  else if n < 0 ∨ 512 ≤ n then (ByteArray.empty, 1)
  else match lookW (L ++ D.wait) n.toNat with
    | some s => if s.size = 0 then (ByteArray.empty, 24) else (s, 0)
    | none => (zs 64, 0)

def Says (o : Option ByteArray) (last : ByteArray) (torn : Bool) : Prop :=
  match o with
  | none => last = zs 64 ∧ torn = false
  | some s => if s.size = 0 then torn = true else torn = false ∧ last = s
structure Agree (D : Dk) (L : List (Nat × ByteArray)) : Prop where
  full : ∀ p ∈ D.wait, p.2.size = 64
  says : ∀ n, n < 512 → Says (lookW L n) (D.last n) (D.torn n)

theorem agree_new : Agree Dk.new [] := ⟨fun p hp => by simp [Dk.new] at hp, fun n _ => ⟨rfl, rfl⟩⟩
theorem lookW_mem {l : List (Nat × ByteArray)} {n : Nat} {s : ByteArray} (h : lookW l n = some s) : (n, s) ∈ l := by
  unfold lookW at h
  cases hf : l.reverse.find? (fun p => p.1 == n) with
  | none => rw [hf] at h; cases h
  | some p =>
    rw [hf] at h
    obtain rfl : p.2 = s := by simpa using h
    have h1 := List.find?_some hf
    have h2 := List.mem_of_find?_eq_some hf
    have : p.1 = n := by simpa using h1
    subst this
    exact List.mem_reverse.1 h2
theorem agree_rd {D : Dk} {L : List (Nat × ByteArray)} (h : Agree D L) (n : Int) : rrd D L n = D.rd n := by
  unfold rrd Dk.rd
  split
  · rfl
  split
  · rfl
  rename_i hb
  have hs := h.says n.toNat (by omega)
  rw [lookW_append]
  cases hw : lookW D.wait n.toNat with
  | some s =>
    have := h.full _ (lookW_mem hw)
    simp only [Option.some_or]
    rw [if_neg (by simp at this; omega)]
  | none =>
    simp only [Option.none_or]
    cases hl : lookW L n.toNat with
    | none =>
      rw [hl] at hs
      obtain ⟨h1, h2⟩ := hs
      simp [h1, h2]
    | some s =>
      rw [hl] at hs
      unfold Says at hs
      by_cases h0 : s.size = 0
      · simp only [if_pos h0] at hs ⊢
        rw [hs, if_pos rfl]
      · simp only [if_neg h0] at hs ⊢
        rw [hs.1, if_neg (by simp), hs.2]
theorem agree_wr {D : Dk} {L : List (Nat × ByteArray)} (h : Agree D L) (n : Int) (s : ByteArray) : Agree (D.wr n s).2 L := by
  unfold Dk.wr
  split
  · exact h
  split
  · exact h
  rename_i hb
  split
  · exact ⟨h.full, h.says⟩
  · refine ⟨fun p hp => ?_, h.says⟩
    rcases List.mem_append.1 hp with hp | hp
    · exact h.full p hp
    · obtain rfl : p = (n.toNat, s) := by simpa using hp
      show s.size = 64
      omega
theorem says_dones {D : Dk} {L l : List (Nat × ByteArray)} (hl : ∀ p ∈ l, p.2.size = 64) (h : ∀ n, n < 512 → Says (lookW L n) (D.last n) (D.torn n)) (n : Nat) (hn : n < 512) : Says (lookW (L ++ l) n) ((D.dones l).last n) ((D.dones l).torn n) := by
  rw [lookW_append, dones_last, dones_torn]
  cases hw : lookW l n with
  | some s =>
    have := hl _ (lookW_mem hw)
    simp only [Option.some_or, Option.getD_some, Option.isSome_some, Bool.not_true, Bool.false_and]
    unfold Says
    simp only
    rw [if_neg (by simp at this; omega)]
    exact ⟨by simp, by simp⟩
  | none => simpa using h n hn
theorem agree_sync {D : Dk} {L : List (Nat × ByteArray)} (h : Agree D L) : Agree D.sync.2 (syncL D L) := by
  unfold syncL Dk.sync
  split
  · exact h
  split
  · exact ⟨h.full, h.says⟩
  · refine ⟨fun p hp => by simp at hp, ?_⟩
    simp only [if_true]
    exact says_dones h.full h.says
theorem agree_restart {D : Dk} {L : List (Nat × ByteArray)} (h : Agree D L) (keep : Int) (torn : Bool) : Agree (D.restart keep torn) (restL D L keep torn) := by
  refine ⟨fun p hp => by simp [Dk.restart] at hp, fun n hn => ?_⟩
  have h1 := says_dones (fun p hp => h.full p (List.mem_of_mem_take hp)) h.says n hn (l := D.wait.take (keepN keep D.wait.length))
  unfold restL tornPut Dk.restart
  simp only
  rw [lookW_append]
  by_cases ht : torn = true
  · rw [if_pos ht]
    cases hg : D.wait[keepN keep D.wait.length]? with
    | none => simpa [lookW_nil] using h1
    | some p =>
      simp only [Option.toList_some, List.map_cons, List.map_nil, lookW_one, Option.map_some]
      by_cases e : p.1 = n
      · rw [if_pos e]
        simp [Says, e, ht]
      · rw [if_neg e, if_neg (by rintro ⟨-, h⟩; exact e (by simpa using h))]
        simpa using h1
  · rw [if_neg ht]
    simp only [ht]
    simpa [lookW_nil] using h1
theorem agree_armed {D : Dk} {L : List (Nat × ByteArray)} (h : Agree D L) (n : Int) : Agree (D.armed n) L := ⟨h.full, h.says⟩
end Go.Proofs.Ytddaiihhhajieaa
