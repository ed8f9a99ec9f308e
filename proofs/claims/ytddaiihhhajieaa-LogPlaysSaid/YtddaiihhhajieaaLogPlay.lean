/- LogPlays' steps: a call at both logs, with the op's own block beside. -/
import Derived.Test.YtddaiihhhajieaaLogDuo
namespace Go.Proofs.Ytddaiihhhajieaa
open Go.RowKit Go.Maps

/-- both logs, and a block that is apart from both -/
structure DuoB (w0 w : World) (d g r q B : Nat) (cs : Array Value) (D1 : Dk) (L1 : Lg) (D2 : Dk) (Lp : Puts) (L2 : Lg) (F G : Foot) : Prop where
  duo : DuoAt w0 w d g r q D1 L1 D2 Lp L2 F G
  blk : Blk w B 66 cs
  nl : ¬ Un F (fun k => k = g) B
  nr : ¬ Un G (fun k => k = q) B
section
variable {w0 w w' : World} {d g r q B N : Nat} {cs : Array Value} {D1 D2 D' : Dk} {L1 L2 L' : Lg} {Lp Lp' : Puts} {F G : Foot}
theorem DuoB.below (h : DuoB w0 w d g r q B cs D1 L1 D2 Lp L2 F G) (hb : Below w.heap.size w w') : DuoB w0 w' d g r q B cs D1 L1 D2 Lp L2 F G :=
  ⟨h.duo.below hb, h.blk.below hb h.blk.lt, h.nl, h.nr⟩
theorem duoB_left (h : DuoB w0 w d g r q B cs D1 L1 D2 Lp L2 F G) (hl : LeftG w F d g D' L' w') : ∃ F', DuoB w0 w' d g r q B cs D' L' D2 Lp L2 F' G := by
  obtain ⟨F', h1, h2, h3, h4⟩ := hl
  have hst := h4.stay h.duo.apart h.duo.rlt
  refine ⟨F', ⟨h1, h2, h.duo.ref.stay (fun k hk => hst k (.inl hk)), h.duo.rlog.stay (hst q (.inr rfl)), h3, h.duo.rne, h4.apart h.duo.apart h.duo.rlt, fun k hk => (h4.fresh k hk).elim (h.duo.low k) (fun h' => Nat.le_trans h.duo.bel.size h'), h.duo.rlow, h.duo.bel.trans (h4.toBelow h.duo.bel.size h.duo.low)⟩, h.blk.stay (h4.keep B h.blk.lt h.nl), fun hu => (h4.fresh B hu).elim h.nl (fun h' => by have := h.blk.lt; omega), h.nr⟩
theorem duoB_right (h : DuoB w0 w d g r q B cs D1 L1 D2 Lp L2 F G) (hl : LeftQ w G r q D' L' N w') : ∃ G' Lp', DuoB w0 w' d g r q B cs D1 L1 D' Lp' L' F G' ∧ Agree D' Lp' ∧ Lp'.length + D'.wait.length ≤ N := by
  obtain ⟨G', Lp', h1, h2, h3, h4, h5, h6⟩ := hl
  have hap : ∀ k, Un G (fun k => k = q) k → ¬ Un F (fun k => k = g) k := fun k hk hf => h.duo.apart k hf hk
  have hst := h6.stay hap h.duo.lt
  have hap' := h6.apart hap h.duo.lt
  exact ⟨G', Lp', ⟨⟨h.duo.disk.stay (fun k hk => hst k (.inl hk)), h.duo.log.stay (hst g (.inr rfl)), h1, h4, h.duo.ne, h5, fun k hk hg => hap' k hg hk, h.duo.low, fun k hk => (h6.fresh k hk).elim (h.duo.rlow k) (fun h' => Nat.le_trans h.duo.bel.size h'), h.duo.bel.trans (h6.toBelow h.duo.bel.size h.duo.rlow)⟩, h.blk.stay (h6.keep B h.blk.lt h.nr), h.nl, fun hu => (h6.fresh B hu).elim h.nr (fun h' => by have := h.blk.lt; omega)⟩, h2, h3⟩
theorem duoB_disk (h : DuoB w0 w d g r q B cs D1 L1 D2 Lp L2 F G) (hl : Left w F d D' w') : ∃ F', DuoB w0 w' d g r q B cs D' L1 D2 Lp L2 F' G := by
  obtain ⟨F', h1, h2⟩ := hl
  have hlt := h.duo.log.lt
  exact duoB_left h ⟨F', h1, h.duo.log.stay (h2.keep g hlt h.duo.ne), fun hk => (h2.fresh g hk).elim h.duo.ne (fun h' => by omega), h2.beside _⟩
theorem duoB_ref (h : DuoB w0 w d g r q B cs D1 L1 D2 Lp L2 F G) (hl : LeftR w G r D' Lp' w') : ∃ G', DuoB w0 w' d g r q B cs D1 L1 D' Lp' L2 F G' := by
  obtain ⟨G', h1, h2⟩ := hl
  have hlt := h.duo.rlog.lt
  have hap : ∀ k, Un G (fun k => k = q) k → ¬ Un F (fun k => k = g) k := fun k hk hf => h.duo.apart k hf hk
  have h6 := h2.beside (fun k => k = q)
  have hst := h6.stay hap h.duo.lt
  have hap' := h6.apart hap h.duo.lt
  exact ⟨G', ⟨⟨h.duo.disk.stay (fun k hk => hst k (.inl hk)), h.duo.log.stay (hst g (.inr rfl)), h1, h.duo.rlog.stay (h2.keep q hlt h.duo.rne), h.duo.ne, fun hk => (h2.fresh q hk).elim h.duo.rne (fun h' => by omega), fun k hk hg => hap' k hg hk, h.duo.low, fun k hk => (h6.fresh k hk).elim (h.duo.rlow k) (fun h' => Nat.le_trans h.duo.bel.size h'), h.duo.bel.trans (h6.toBelow h.duo.bel.size h.duo.rlow)⟩, h.blk.stay (h6.keep B h.blk.lt h.nr), h.nl, fun hu => (h6.fresh B hu).elim h.nr (fun h' => by have := h.blk.lt; omega)⟩⟩
/-- the document's disk is armed by a store -/
theorem duoB_arm (h : DuoB w0 w d g r q B cs D1 L1 D2 Lp L2 F G) (x : Int) : (∃ v, w.cell? ⟨r, 2, none⟩ = some v) ∧ w.frozen? ⟨r, 2, none⟩ = false ∧ ∃ G', DuoB w0 (w.setCell ⟨r, 2, none⟩ (.int .i64 x)) d g r q B cs D1 L1 { D2 with arm := x } Lp L2 F G' := by
  obtain ⟨lv, wv, h1, hG⟩ := h.duo.ref
  have hr : G r := (hG r).2 (.inl rfl)
  refine ⟨⟨_, h1.c2⟩, h1.fz 2, ?_⟩
  have hne : ∀ k, k ≠ r → (w.setCell ⟨r, 2, none⟩ (.int .i64 x)).heap[k]? = w.heap[k]? := fun k hk => Below.heap_setCell _ _ _ _ hk
  refine ⟨G, ⟨⟨h.duo.disk.stay (fun k hk => hne k (by rintro rfl; exact h.duo.apart _ (.inl hk) (.inl hr))), h.duo.log.stay (hne g (by rintro rfl; exact h.duo.apart _ (.inr rfl) (.inl hr))), ⟨lv, wv, h1.set_arm x, hG⟩, h.duo.rlog.stay (hne q (by rintro rfl; exact h.duo.rne hr)), h.duo.ne, h.duo.rne, h.duo.apart, h.duo.low, h.duo.rlow, h.duo.bel.setCell (p := ⟨r, 2, none⟩) (h.duo.rlow r (.inl hr)) _⟩, h.blk.stay (hne B (by rintro rfl; exact h.nr (.inl hr))), h.nl, h.nr⟩⟩
/-- the program's log is opened anew -/
theorem duoB_log (h : DuoB w0 w d g r q B cs D1 L1 D2 Lp L2 F G) {g' : Nat} (hb : Below w.heap.size w w') (hg : w.heap.size ≤ g') (hl : LogAt w' g' d L') : DuoB w0 w' d g' r q B cs D1 L' D2 Lp L2 F G :=
  ⟨duo_log h.duo hb hg hl, h.blk.below hb h.blk.lt, fun hu => hu.elim (fun hf => h.nl (.inl hf)) (fun e => by have := h.blk.lt; omega), h.nr⟩
theorem duoB_rlog (h : DuoB w0 w d g r q B cs D1 L1 D2 Lp L2 F G) {q' : Nat} (hb : Below w.heap.size w w') (hg : w.heap.size ≤ q') (hl : RLogAt w' q' r L') : DuoB w0 w' d g r q' B cs D1 L1 D2 Lp L' F G :=
  ⟨duo_rlog h.duo hb hg hl, h.blk.below hb h.blk.lt, h.nl, fun hu => hu.elim (fun hf => h.nr (.inl hf)) (fun e => by have := h.blk.lt; omega)⟩
theorem DuoB.refc (h : DuoB w0 w d g r q B cs D1 L1 D2 Lp L2 F G) : w.cell? ⟨r, 3, none⟩ = some (.bool D2.off) := by
  obtain ⟨lv, wv, h1, _⟩ := h.duo.ref
  exact h1.c3
end

/-- what is kept from op to op -/
structure Plays (w0 w : World) (d g r q : Nat) (D : Dk) (L : Lg) (i : Nat) (Lp : Puts) (F G : Foot) : Prop where
  duo : DuoAt w0 w d g r q D L D Lp L F G
  agree : Agree D Lp
  full : Full D
  small : Small L i
  long : Lp.length + D.wait.length ≤ i * 1000
  turns : D.turns ≤ i
def Play (w0 w : World) (d g r q : Nat) (D : Dk) (L : Lg) (i : Nat) : Prop := ∃ Lp F G, Plays w0 w d g r q D L i Lp F G
end Go.Proofs.Ytddaiihhhajieaa
