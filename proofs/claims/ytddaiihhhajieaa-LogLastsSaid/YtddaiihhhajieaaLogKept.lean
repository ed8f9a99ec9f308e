/- A log whose records are kept besides in a slice: what calls leave. -/
import Derived.Test.YtddaiihhhajieaaLogRenews
namespace Go.Proofs.Ytddaiihhhajieaa
open Go.RowKit Go.Maps

/-- a disk and a log that were made since w0, and an own row that lies apart from both -/
structure KeptAt (w0 w : World) (d g : Nat) (D : Dk) (L : Lg) (av : Value) (all : List ByteArray) (F : Foot) : Prop where
  disk : IsDisk w d F D
  log : LogAt w g d L
  ne : ¬ F g
  low : ∀ k, F k → w0.heap.size ≤ k
  glow : w0.heap.size ≤ g
  bel : Below w0.heap.size w0 w
  row : w.ownsRow w0.heap.size 9 1 av all.length (strsV all)
  apart : ∀ k, av.ownBlock = some k → ¬ F k ∧ k ≠ g
def StK (w0 w : World) (d g : Nat) (D : Dk) (L : Lg) (av : Value) (all : List ByteArray) : Prop := ∃ F, KeptAt w0 w d g D L av all F
section
variable {w0 w w' : World} {d g : Nat} {D D' : Dk} {L L' : Lg} {av : Value} {all : List ByteArray}
theorem StK.st (h : StK w0 w d g D L av all) : StD w0 w d g D L := by
  obtain ⟨F, h⟩ := h
  exact ⟨F, h.disk, h.log, h.ne, h.low, h.glow, h.bel⟩
theorem StK.bel (h : StK w0 w d g D L av all) : Below w0.heap.size w0 w := h.st.bel
theorem StK.row (h : StK w0 w d g D L av all) : w.ownsRow w0.heap.size 9 1 av all.length (strsV all) := by
  obtain ⟨F, h⟩ := h
  exact h.row
theorem StK.below (h : StK w0 w d g D L av all) (hb : Below w.heap.size w w') : StK w0 w' d g D L av all := by
  obtain ⟨F, h⟩ := h
  exact ⟨F, h.disk.below hb, h.log.below hb, h.ne, h.low, h.glow, h.bel.trans (hb.mono h.bel.size), own_below h.row hb, h.apart⟩
theorem stk_nil (h : StD w0 w d g D L) : StK w0 w d g D L (.slice none 0 0) [] := by
  obtain ⟨F, h1, h2, h3, h4, h5, h6⟩ := h
  exact ⟨F, h1, h2, h3, h4, h5, h6, ⟨rfl, .inl ⟨rfl, rfl⟩⟩, fun k hk => by simp [Value.ownBlock] at hk⟩
theorem stk_append (h : StK w0 w d g D L av all) (hlen : D.wait.length < 1000000000000) (hf : LgFine L) (v : Value) (l : List ByteArray) (hv : IsStrs w v l) (hll : l.length ≤ 1000000000) :
    Calls Try.prog 34 #[.pointer (some ⟨g, 0, none⟩), v] w fun e w' => e = .returned (.int .i64 (appendL D L l).1) ∧ StK w0 w' d g (appendL D L l).2.1 (appendL D L l).2.2 av all := by
  obtain ⟨F, h⟩ := h
  refine (lappend_any g d F D L v l w h.disk h.log h.ne hlen hf hv hll).mono ?_
  rintro e w' ⟨rfl, hL⟩
  obtain ⟨F1, k1, k2, k3, k4⟩ := hL
  have hU : ∀ k, Un F (fun k => k = g) k → w0.heap.size ≤ k := fun k hk => hk.elim (h.low k) (fun e => by rw [e]; exact h.glow)
  have hap : ∀ k, av.ownBlock = some k → ¬ Un F (fun k => k = g) k := fun k hk hu => hu.elim (h.apart k hk).1 (h.apart k hk).2
  refine ⟨rfl, F1, k1, k2, k3, fun k hk => (k4.fresh k (.inl hk)).elim (hU k) (fun h' => Nat.le_trans h.bel.size h'), h.glow, h.bel.trans (k4.toBelow h.bel.size hU), own_stay h.row (fun k hk => k4.keep k (own_lt h.row k hk) (hap k hk)), fun k hk => ⟨fun hf => (k4.fresh k (.inl hf)).elim (hap k hk) (fun h' => by have := own_lt h.row k hk; omega), (h.apart k hk).2⟩⟩
theorem stk_renew (h : StK w0 w d g D L av all) (hlen : D.wait.length < 1000000000000) (hf : LgFine L) (v : Value) (l : List ByteArray) (hv : IsStrs w v l) (hll : l.length ≤ 1000000000) :
    Calls Try.prog 38 #[.pointer (some ⟨g, 0, none⟩), v] w fun e w' => e = .returned (.int .i64 (renewL D L l).1) ∧ StK w0 w' d g (renewL D L l).2.1 (renewL D L l).2.2 av all := by
  obtain ⟨F, h⟩ := h
  refine (lrenew_any g d F D L v l w h.disk h.log h.ne hlen hf hv hll).mono ?_
  rintro e w' ⟨rfl, hL⟩
  obtain ⟨F1, k1, k2, k3, k4⟩ := hL
  have hU : ∀ k, Un F (fun k => k = g) k → w0.heap.size ≤ k := fun k hk => hk.elim (h.low k) (fun e => by rw [e]; exact h.glow)
  have hap : ∀ k, av.ownBlock = some k → ¬ Un F (fun k => k = g) k := fun k hk hu => hu.elim (h.apart k hk).1 (h.apart k hk).2
  refine ⟨rfl, F1, k1, k2, k3, fun k hk => (k4.fresh k (.inl hk)).elim (hU k) (fun h' => Nat.le_trans h.bel.size h'), h.glow, h.bel.trans (k4.toBelow h.bel.size hU), own_stay h.row (fun k hk => k4.keep k (own_lt h.row k hk) (hap k hk)), fun k hk => ⟨fun hf => (k4.fresh k (.inl hf)).elim (hap k hk) (fun h' => by have := own_lt h.row k hk; omega), (h.apart k hk).2⟩⟩
/-- a call at the disk alone -/
theorem stk_left {R : Ending → Prop} {N : Nat} {args : Array Value} (h : StK w0 w d g D L av all) (hc : ∀ F, IsDisk w d F D → Calls Try.prog N args w fun e w' => R e ∧ Left w F d D' w') : Calls Try.prog N args w fun e w' => R e ∧ StK w0 w' d g D' L av all := by
  obtain ⟨F, h⟩ := h
  refine (hc F h.disk).mono ?_
  rintro e w' ⟨he, F1, k1, k4⟩
  refine ⟨he, F1, k1, h.log.stay (k4.keep g h.log.lt h.ne), fun hf => (k4.fresh g hf).elim h.ne (fun h' => by have := h.log.lt; omega), fun k hk => (k4.fresh k hk).elim (h.low k) (fun h' => Nat.le_trans h.bel.size h'), h.glow, h.bel.trans (k4.toBelow h.bel.size h.low), own_stay h.row (fun k hk => k4.keep k (own_lt h.row k hk) (h.apart k hk).1), fun k hk => ⟨fun hf => (k4.fresh k hf).elim (h.apart k hk).1 (fun h' => by have := own_lt h.row k hk; omega), (h.apart k hk).2⟩⟩
/-- the row grows -/
theorem stk_grown (h : StK w0 w d g D L av all) {av' : Value} {all' : List ByteArray} (hg : w.grownBy w' av.ownBlock) (hb : av'.ownBlock = av.ownBlock ∨ av'.ownBlock = some w.heap.size) (ho : w'.ownsRow w0.heap.size 9 1 av' all'.length (strsV all')) : StK w0 w' d g D L av' all' := by
  obtain ⟨F, h⟩ := h
  refine ⟨F, h.disk.stay (fun k hk => hg.block k (h.disk.lt k hk) (fun e => (h.apart k e.symm).1 hk)), h.log.stay (hg.block g h.log.lt (fun e => (h.apart g e.symm).2 rfl)), h.ne, h.low, h.glow, h.bel.grown hg h.bel.size (fun k hk => (h.row.lt k hk).1), ho, fun k hk => ?_⟩
  rcases hb with hb | hb
  · exact h.apart k (hb ▸ hk)
  · rw [hb] at hk
    obtain rfl : w.heap.size = k := by simpa using hk
    exact ⟨fun hf => by have := h.disk.lt _ hf; omega, fun e => by have := h.log.lt; omega⟩
end
theorem calm_renew {D : Dk} {L : Lg} {all : List ByteArray} {n : Nat} (h : Calm D L all n) (hn : n < 1000000) {l : List ByteArray} (hl : IsLight l) :
    ∃ D' L', (renewL D L l = (0, D', L') ∧ Calm D' L' l (n + 1)) ∨ (renewL D L l = (20, D', L') ∧ D' = D ∧ L' = L) := by
  obtain ⟨h1, h2, h3, h4, h5⟩ := h
  have hf := full_renewL h2 L l
  rcases renew_says h1 (by omega) (by omega) l with ⟨k1, k2, k3, k4⟩ | k1 | ⟨k1, k2, k3⟩
  · obtain ⟨⟨a, D', L'⟩, hr⟩ : ∃ r, r = renewL D L l := ⟨_, rfl⟩
    rw [← hr] at k1 k2 k3 k4 hf
    simp only at k1 k2 k3 k4 hf
    subst k1
    refine ⟨D', L', .inl ⟨hr.symm, k2, hf, k4 h3, by omega, ?_⟩⟩
    have := hl.1
    rw [Nat.add_mul]
    omega
  · exact ⟨D, L, .inr ⟨k1, rfl, rfl⟩⟩
  · exact absurd h3 k2
theorem Calm.more {D : Dk} {L : Lg} {all : List ByteArray} {n : Nat} (h : Calm D L all n) : Calm D L all (n + 1) :=
  ⟨h.keeps, h.full, h.arm, Nat.le_succ_of_le h.epoch, Nat.le_trans h.long (Nat.mul_le_mul_right _ (Nat.le_succ n))⟩

theorem wrParts_wait {side pos epoch group n : Nat} {s : ByteArray} (f : Nat) : ∀ (k : Nat) (D : Dk), (wrParts side pos epoch group n s f k D).2.wait.length ≤ D.wait.length + f := by
  induction f with
  | zero => exact fun _ _ => Nat.le_refl _
  | succ f ih =>
    intro k D
    have h := (wr_len D ((256 * side + pos + k : Nat) : Int) ((hdAt epoch group n s k).block (partOf s k))).1
    unfold wrParts
    simp only
    split
    · omega
    · have := ih (k + 1) (D.wr ((256 * side + pos + k : Nat) : Int) ((hdAt epoch group n s k).block (partOf s k))).2
      omega
theorem sync_wait (D : Dk) : D.sync.2.wait.length ≤ D.wait.length := by
  unfold Dk.sync
  split
  · exact Nat.le_refl _
  split
  · exact Nat.le_refl _
  · exact Nat.zero_le _
theorem wrGroup_wait (D : Dk) (side pos epoch group : Nat) (s : ByteArray) : (wrGroup D side pos epoch group s).2.wait.length ≤ D.wait.length + needN s.size := by
  have h := wrParts_wait (side := side) (pos := pos) (epoch := epoch) (group := group) (n := needN s.size) (s := s) (needN s.size) 0 D
  unfold wrGroup
  simp only
  split
  · exact h
  · exact Nat.le_trans (sync_wait _) h
theorem renew_wait (D : Dk) (L : Lg) (l : List ByteArray) : (renewL D L l).2.1.wait.length ≤ D.wait.length + 256 := by
  unfold renewL
  split
  · exact Nat.le_add_right _ _
  split
  · exact Nat.le_add_right _ _
  rename_i h
  simp only
  generalize (if L.epoch = 0 then 0 else 1 - L.side) = sd
  have h1 := wrGroup_wait D sd 0 (L.epoch + 1) 0 (packTo l)
  split
  · show (wrGroup D sd 0 (L.epoch + 1) 0 (packTo l)).2.wait.length ≤ _; omega
  · show (wrGroup D sd 0 (L.epoch + 1) 0 (packTo l)).2.wait.length ≤ _; omega
theorem append_wait (D : Dk) (L : Lg) (l : List ByteArray) : (appendL D L l).2.1.wait.length ≤ D.wait.length + 256 := by
  unfold appendL
  split
  · exact Nat.le_add_right _ _
  split
  · exact renew_wait D L l
  split
  · exact Nat.le_add_right _ _
  rename_i h
  simp only
  have h1 := wrGroup_wait D L.side L.pos L.epoch L.group (packTo l)
  split
  · show (wrGroup D L.side L.pos L.epoch L.group (packTo l)).2.wait.length ≤ _; omega
  · show (wrGroup D L.side L.pos L.epoch L.group (packTo l)).2.wait.length ≤ _; omega
end Go.Proofs.Ytddaiihhhajieaa
