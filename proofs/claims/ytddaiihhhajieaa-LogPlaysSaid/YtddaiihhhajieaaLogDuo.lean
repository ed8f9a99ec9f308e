/- The program's log and the document's, side by side in memory. -/
import Derived.Test.YtddaiihhhajieaaRefOpen
import Derived.Test.YtddaiihhhajieaaLogLight
namespace Go.Proofs.Ytddaiihhhajieaa
open Go.RowKit Go.Maps

structure DuoAt (w0 w : World) (d g r q : Nat) (D1 : Dk) (L1 : Lg) (D2 : Dk) (Lp : Puts) (L2 : Lg) (F G : Foot) : Prop where
  disk : IsDisk w d F D1
  log : LogAt w g d L1
  ref : IsRef w r G D2 Lp
  rlog : RLogAt w q r L2
  ne : ¬ F g
  rne : ¬ G q
  apart : ∀ k, Un F (fun k => k = g) k → ¬ Un G (fun k => k = q) k
  low : ∀ k, Un F (fun k => k = g) k → w0.heap.size ≤ k
  rlow : ∀ k, Un G (fun k => k = q) k → w0.heap.size ≤ k
  bel : Below w0.heap.size w0 w
section
variable {w0 w w' : World} {d g r q N : Nat} {D1 D2 D' : Dk} {L1 L2 L' : Lg} {Lp Lp' : Puts} {F G : Foot}
theorem DuoAt.lt (h : DuoAt w0 w d g r q D1 L1 D2 Lp L2 F G) : ∀ k, Un F (fun k => k = g) k → k < w.heap.size := fun k hk => hk.elim (h.disk.lt k) (fun e => by rw [e]; exact h.log.lt)
theorem DuoAt.rlt (h : DuoAt w0 w d g r q D1 L1 D2 Lp L2 F G) : ∀ k, Un G (fun k => k = q) k → k < w.heap.size := fun k hk => hk.elim (h.ref.lt k) (fun e => by rw [e]; exact h.rlog.lt)
theorem DuoAt.below (h : DuoAt w0 w d g r q D1 L1 D2 Lp L2 F G) (hb : Below w.heap.size w w') : DuoAt w0 w' d g r q D1 L1 D2 Lp L2 F G :=
  ⟨h.disk.below hb, h.log.below hb, h.ref.below hb, h.rlog.below hb, h.ne, h.rne, h.apart, h.low, h.rlow, h.bel.trans (hb.mono h.bel.size)⟩
/-- a call at the program's log -/
theorem duo_left (h : DuoAt w0 w d g r q D1 L1 D2 Lp L2 F G) (hl : LeftG w F d g D' L' w') : ∃ F', DuoAt w0 w' d g r q D' L' D2 Lp L2 F' G := by
  obtain ⟨F', h1, h2, h3, h4⟩ := hl
  have hst := h4.stay h.apart h.rlt
  exact ⟨F', h1, h2, h.ref.stay (fun k hk => hst k (.inl hk)), h.rlog.stay (hst q (.inr rfl)), h3, h.rne, h4.apart h.apart h.rlt, fun k hk => (h4.fresh k hk).elim (h.low k) (fun h' => Nat.le_trans h.bel.size h'), h.rlow, h.bel.trans (h4.toBelow h.bel.size h.low)⟩
/-- a call at the document's log -/
theorem duo_right (h : DuoAt w0 w d g r q D1 L1 D2 Lp L2 F G) (hl : LeftQ w G r q D' L' N w') : ∃ G' Lp', DuoAt w0 w' d g r q D1 L1 D' Lp' L' F G' ∧ Agree D' Lp' ∧ Lp'.length + D'.wait.length ≤ N := by
  obtain ⟨G', Lp', h1, h2, h3, h4, h5, h6⟩ := hl
  have hap : ∀ k, Un G (fun k => k = q) k → ¬ Un F (fun k => k = g) k := fun k hk hf => h.apart k hf hk
  have hst := h6.stay hap h.lt
  have hap' := h6.apart hap h.lt
  exact ⟨G', Lp', ⟨h.disk.stay (fun k hk => hst k (.inl hk)), h.log.stay (hst g (.inr rfl)), h1, h4, h.ne, h5, fun k hk hg => hap' k hg hk, h.low, fun k hk => (h6.fresh k hk).elim (h.rlow k) (fun h' => Nat.le_trans h.bel.size h'), h.bel.trans (h6.toBelow h.bel.size h.rlow)⟩, h2, h3⟩
/-- a call at the program's disk -/
theorem duo_disk (h : DuoAt w0 w d g r q D1 L1 D2 Lp L2 F G) (hl : Left w F d D' w') : ∃ F', DuoAt w0 w' d g r q D' L1 D2 Lp L2 F' G := by
  obtain ⟨F', h1, h2⟩ := hl
  have hlt := h.log.lt
  exact duo_left h ⟨F', h1, h.log.stay (h2.keep g hlt h.ne), fun hk => (h2.fresh g hk).elim h.ne (fun h' => by omega), h2.beside _⟩
/-- a call at the document's disk -/
theorem duo_ref (h : DuoAt w0 w d g r q D1 L1 D2 Lp L2 F G) (hl : LeftR w G r D' Lp' w') : ∃ G', DuoAt w0 w' d g r q D1 L1 D' Lp' L2 F G' := by
  obtain ⟨G', h1, h2⟩ := hl
  have hlt := h.rlog.lt
  have hap : ∀ k, Un G (fun k => k = q) k → ¬ Un F (fun k => k = g) k := fun k hk hf => h.apart k hf hk
  have h6 := h2.beside (fun k => k = q)
  have hst := h6.stay hap h.lt
  have hap' := h6.apart hap h.lt
  exact ⟨G', h.disk.stay (fun k hk => hst k (.inl hk)), h.log.stay (hst g (.inr rfl)), h1, h.rlog.stay (h2.keep q hlt h.rne), h.ne, fun hk => (h2.fresh q hk).elim h.rne (fun h' => by omega), fun k hk hg => hap' k hg hk, h.low, fun k hk => (h6.fresh k hk).elim (h.rlow k) (fun h' => Nat.le_trans h.bel.size h'), h.bel.trans (h6.toBelow h.bel.size h.rlow)⟩
/-- both are opened anew -/
theorem duo_log (h : DuoAt w0 w d g r q D1 L1 D2 Lp L2 F G) {g' : Nat} (hb : Below w.heap.size w w') (hg : w.heap.size ≤ g') (hl : LogAt w' g' d L') : DuoAt w0 w' d g' r q D1 L' D2 Lp L2 F G := by
  have hw := h.below hb
  refine ⟨hw.disk, hl, hw.ref, hw.rlog, fun hf => by have := h.disk.lt _ hf; omega, h.rne, fun k hk => hk.elim (fun hf => h.apart k (.inl hf)) (fun e hu => ?_), fun k hk => hk.elim (fun hf => h.low k (.inl hf)) (fun e => by have := h.bel.size; omega), h.rlow, hw.bel⟩
  have := h.rlt k hu
  omega
theorem duo_rlog (h : DuoAt w0 w d g r q D1 L1 D2 Lp L2 F G) {q' : Nat} (hb : Below w.heap.size w w') (hg : w.heap.size ≤ q') (hl : RLogAt w' q' r L') : DuoAt w0 w' d g r q' D1 L1 D2 Lp L' F G := by
  have hw := h.below hb
  refine ⟨hw.disk, hw.log, hw.ref, hl, h.ne, fun hf => by have := h.ref.lt _ hf; omega, fun k hk hu => hu.elim (fun hf => h.apart k hk (.inl hf)) (fun e => ?_), h.low, fun k hk => hk.elim (fun hf => h.rlow k (.inl hf)) (fun e => by have := h.bel.size; omega), hw.bel⟩
  have := h.lt k hk
  omega
end

/-! ### the numbers of a log stay small -/
structure Small (L : Lg) (n : Nat) : Prop where
  side : L.side ≤ 1
  pos : L.pos ≤ 256
  group : L.group ≤ 256 + n
  epoch : L.epoch ≤ 4294967296 + n
theorem Small.fine {L : Lg} {n : Nat} (h : Small L n) (hn : n ≤ 1000) : LgFine L := ⟨h.side, h.pos, by have := h.group; omega, by have := h.epoch; omega⟩
theorem small_renew {L : Lg} {n : Nat} (h : Small L n) (D : Dk) (l : List ByteArray) : Small (renewL D L l).2.2 (n + 1) := by
  obtain ⟨h1, h2, h3, h4⟩ := h
  have hsm : Small L (n + 1) := ⟨h1, h2, by omega, by omega⟩
  unfold renewL
  split
  · exact hsm
  split
  · exact hsm
  rename_i hb
  have hsd : (if L.epoch = 0 then 0 else 1 - L.side) ≤ 1 := by split <;> omega
  simp only
  generalize (if L.epoch = 0 then 0 else 1 - L.side) = sd at hsd
  split
  · exact ⟨h1, h2, by show L.group ≤ _; omega, by show L.epoch ≤ _; omega⟩
  · exact ⟨hsd, by show needN (packTo l).size ≤ 256; omega, by show 1 ≤ _; omega, by show L.epoch + 1 ≤ _; omega⟩
theorem small_append {L : Lg} {n : Nat} (h : Small L n) (D : Dk) (l : List ByteArray) : Small (appendL D L l).2.2 (n + 1) := by
  have hr := small_renew h D l
  obtain ⟨h1, h2, h3, h4⟩ := h
  have hsm : Small L (n + 1) := ⟨h1, h2, by omega, by omega⟩
  unfold appendL
  split
  · exact hsm
  split
  · exact hr
  split
  · exact hsm
  rename_i hb
  simp only
  split
  · exact ⟨h1, h2, by show L.group ≤ _; omega, by show L.epoch ≤ _; omega⟩
  · refine ⟨h1, ?_, ?_, ?_⟩
    · show L.pos + needN (packTo l).size ≤ 256
      omega
    · show L.group + 1 ≤ _; omega
    · show L.epoch ≤ _; omega
theorem groupsFrom_small (D : Dk) (f : Nat) : ∀ L out, L.side ≤ 1 → L.pos ≤ 256 → L.group ≤ L.pos → (groupsFrom D f L out).1.side ≤ 1 ∧ (groupsFrom D f L out).1.pos ≤ 256 ∧ (groupsFrom D f L out).1.group ≤ (groupsFrom D f L out).1.pos ∧ (groupsFrom D f L out).1.epoch = L.epoch := by
  induction f with
  | zero => exact fun L out h1 h2 h3 => ⟨h1, h2, h3, rfl⟩
  | succ f ih =>
    intro L out h1 h2 h3
    unfold groupsFrom
    split
    · split
      · exact ⟨h1, h2, h3, rfl⟩
      · rename_i p hp
        obtain ⟨n1, n2⟩ := rdGroup_n h2 hp
        exact ih _ _ h1 n2 (by show L.group + 1 ≤ L.pos + p.2; omega)
    · exact ⟨h1, h2, h3, rfl⟩
theorem pickOne_epoch {D : Dk} (hw : Whole D) {L : Lg} (h : L.epoch < 4294967296) (k : Nat) : (pickOne D L k).epoch < 4294967296 := by
  unfold pickOne
  split
  · exact h
  rename_i h0
  simp only
  split
  · refine numB_lt4 _ ?_
    have := hw (256 * k) (by simpa using h0)
    rw [ByteArray.size_extract]
    omega
  · exact h
theorem opened_small {D : Dk} (hw : Whole D) (n : Nat) : Small (opened D).1 n := by
  obtain ⟨a1, a2, a3⟩ := picked_fine D
  have he : (picked D).epoch < 4294967296 := pickOne_epoch hw (pickOne_epoch hw (by decide) 0) 1
  obtain ⟨h1, h2, h3, h4⟩ := groupsFrom_small D 257 (picked D) [] a1 (by have : (picked D).pos = 0 := a2; omega) (by have : (picked D).pos = 0 := a2; have : (picked D).group = 0 := a3; omega)
  exact ⟨h1, h2, by show (groupsFrom D 257 (picked D) []).1.group ≤ _; omega, by show (groupsFrom D 257 (picked D) []).1.epoch ≤ _; omega⟩
end Go.Proofs.Ytddaiihhhajieaa
