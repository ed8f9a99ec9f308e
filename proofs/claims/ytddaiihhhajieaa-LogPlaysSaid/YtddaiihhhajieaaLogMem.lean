/- The log's own struct in memory; Room and Epoch; what Open comes to, as plain data. -/
import Derived.Test.YtddaiihhhajieaaLogRead
import Derived.Test.YtddaiihhhajieaaDiskFresh
namespace Go.Proofs.Ytddaiihhhajieaa
open Go.RowKit Go.Maps

structure Lg where
  side : Nat
  epoch : Nat
  pos : Nat
  group : Nat
  over : Bool
/-- the log's block: it is of its disk -/
def LogAt (w : World) (g d : Nat) (L : Lg) : Prop :=
  Blk w g 105 #[.pointer (some ⟨d, 0, none⟩), .int .i64 (L.side : Int), .int .i64 (L.epoch : Int), .int .i64 (L.pos : Int), .int .i64 (L.group : Int), .bool L.over]
section
variable {w w' : World} {g d : Nat} {L : Lg}
theorem LogAt.c0 (h : LogAt w g d L) : w.cell? ⟨g, 0, none⟩ = some (.pointer (some ⟨d, 0, none⟩)) := (Blk.cell h 0).trans rfl
theorem LogAt.c1 (h : LogAt w g d L) : w.cell? ⟨g, 1, none⟩ = some (.int .i64 (L.side : Int)) := (Blk.cell h 1).trans rfl
theorem LogAt.c2 (h : LogAt w g d L) : w.cell? ⟨g, 2, none⟩ = some (.int .i64 (L.epoch : Int)) := (Blk.cell h 2).trans rfl
theorem LogAt.c3 (h : LogAt w g d L) : w.cell? ⟨g, 3, none⟩ = some (.int .i64 (L.pos : Int)) := (Blk.cell h 3).trans rfl
theorem LogAt.c4 (h : LogAt w g d L) : w.cell? ⟨g, 4, none⟩ = some (.int .i64 (L.group : Int)) := (Blk.cell h 4).trans rfl
theorem LogAt.c5 (h : LogAt w g d L) : w.cell? ⟨g, 5, none⟩ = some (.bool L.over) := (Blk.cell h 5).trans rfl
theorem LogAt.fz (h : LogAt w g d L) (k : Nat) : w.frozen? ⟨g, k, none⟩ = false := Blk.frozen h k
theorem LogAt.lt (h : LogAt w g d L) : g < w.heap.size := Blk.lt h
theorem LogAt.stay (h : LogAt w g d L) (hk : w'.heap[g]? = w.heap[g]?) : LogAt w' g d L := Blk.stay h hk
theorem LogAt.below (h : LogAt w g d L) (hb : Below w.heap.size w w') : LogAt w' g d L := h.stay (hb.block g h.lt)
theorem LogAt.set_side (h : LogAt w g d L) (x : Nat) : LogAt (w.setCell ⟨g, 1, none⟩ (.int .i64 (x : Int))) g d { L with side := x } := Blk.set_ h 1 _
theorem LogAt.set_epoch (h : LogAt w g d L) (x : Nat) : LogAt (w.setCell ⟨g, 2, none⟩ (.int .i64 (x : Int))) g d { L with epoch := x } := Blk.set_ h 2 _
theorem LogAt.set_pos (h : LogAt w g d L) (x : Nat) : LogAt (w.setCell ⟨g, 3, none⟩ (.int .i64 (x : Int))) g d { L with pos := x } := Blk.set_ h 3 _
theorem LogAt.set_group (h : LogAt w g d L) (x : Nat) : LogAt (w.setCell ⟨g, 4, none⟩ (.int .i64 (x : Int))) g d { L with group := x } := Blk.set_ h 4 _
theorem LogAt.set_over (h : LogAt w g d L) (x : Bool) : LogAt (w.setCell ⟨g, 5, none⟩ (.bool x)) g d { L with over := x } := Blk.set_ h 5 _
end

theorem room_any (g d : Nat) (L : Lg) (w : World) (h : LogAt w g d L) (hp : L.pos ≤ 256) : Calls Try.prog 35 #[.pointer (some ⟨g, 0, none⟩)] w fun e w' => e = .returned (.int .i64 (256 - (L.pos : Int))) ∧ w = w' := by
  have c3 := h.c3
  have g1 : (L.pos : Int) ≤ 256 := by omega
  clear h
  go_enter Try.func35, Try.ntmps35
  go_wp2
  go_ret
  exact ⟨rfl, rfl⟩
theorem epoch_any (g d : Nat) (L : Lg) (w : World) (h : LogAt w g d L) : Calls Try.prog 36 #[.pointer (some ⟨g, 0, none⟩)] w fun e w' => e = .returned (.int .i64 (L.epoch : Int)) ∧ w = w' := by
  have c2 := h.c2
  clear h
  go_enter Try.func36, Try.ntmps36
  go_wp2
  go_ret
  exact ⟨rfl, rfl⟩

/-- one side looked at: is it the log, and of which epoch -/
def pickOne (D : Dk) (L : Lg) (side : Nat) : Lg :=
  if (D.rd ((256 * side : Nat) : Int)).2 ≠ 0 then L
  else
    let ep := numB ((D.rd ((256 * side : Nat) : Int)).1.extract 0 4)
    if (rdGroup D side 0 ep 0).isSome = true ∧ L.epoch < ep then { L with side := side, epoch := ep } else L
def Lg.none : Lg := ⟨0, 0, 0, 0, false⟩
def picked (D : Dk) : Lg := pickOne D (pickOne D Lg.none 0) 1
/-- the groups from where the log stands -/
def groupsFrom (D : Dk) : Nat → Lg → List ByteArray → Lg × List ByteArray
  | 0, L, out => (L, out)
  | f + 1, L, out =>
    if 0 < L.epoch ∧ L.pos < 256 then
      match rdGroup D L.side L.pos L.epoch L.group with
      | none => (L, out)
      | some p => groupsFrom D f { L with pos := L.pos + p.2, group := L.group + 1 } (out ++ p.1)
    else (L, out)
def opened (D : Dk) : Lg × List ByteArray := groupsFrom D 257 (picked D) []

theorem rdParts_n {D : Dk} {side pos epoch group : Nat} (f : Nat) : ∀ (i : Nat) (all : ByteArray) (p : ByteArray × Nat), i + f ≤ 256 → pos ≤ i → rdParts D side pos epoch group f i all = some p → 1 ≤ p.2 ∧ pos + p.2 ≤ 256 := by
  induction f with
  | zero => intro i all p _ _ h; simp [rdParts] at h
  | succ f ih =>
    intro i all p h1 h2 h
    unfold rdParts at h
    split at h
    · cases h
    simp only at h
    split at h
    · split at h
      · obtain rfl := Option.some.inj h
        exact ⟨Nat.le_add_left _ _, by simp only; omega⟩
      · exact ih (i + 1) _ p (by omega) (by omega) h
    · cases h
theorem rdGroup_n {D : Dk} {side pos epoch group : Nat} {p : List ByteArray × Nat} (hp : pos ≤ 256) (h : rdGroup D side pos epoch group = some p) : 1 ≤ p.2 ∧ pos + p.2 ≤ 256 := by
  unfold rdGroup at h
  obtain ⟨q, hq, hm⟩ := Option.bind_eq_some_iff.1 h
  obtain ⟨l, _, rfl⟩ := Option.map_eq_some_iff.1 hm
  exact rdParts_n _ pos _ q (by omega) (Nat.le_refl _) hq
end Go.Proofs.Ytddaiihhhajieaa
