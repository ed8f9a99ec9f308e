/- What the calls of Go's library read of package-level variables: strconv's table and two errors, and a number. -/
import Derived.Test.YtappdmioncdefaaDoorShelf
import Derived.Lib.SmallJoins
import Derived.WalkKit
namespace Go.Proofs.YtappdmioncdefaaDoor.Q
open Go.RowKit

def GoodW (w : World) : Prop := (∃ m, w.cell? ⟨0, 0, none⟩ = some (.int .i64 m)) ∧ (∃ te pe, w.cell? ⟨2, 0, none⟩ = some (.iface te pe)) ∧ (∃ te pe, w.cell? ⟨3, 0, none⟩ = some (.iface te pe)) ∧
  Lib.TabIs Tryd.prog w "internal/strconv.uint64pow10" .u64 Lib.pow10Tab
theorem cell_stays {w w' : World} {p : Addr} {v : Value} (h : w.cell? p = some v) (hb : Below w.heap.size w w') : w'.cell? p = some v :=
  (hb.cell (World.block_lt_of_cell? w p h)).trans h
theorem pow10_named : Tryd.prog.globalNamed "internal/strconv.uint64pow10" = some 1 := by kernel_rfl
theorem GoodW.below {w w' : World} (h : GoodW w) (hb : Below w.heap.size w w') : GoodW w' := by
  obtain ⟨⟨m, h1⟩, ⟨t2, p2, h2⟩, ⟨t3, p3, h3⟩, h4⟩ := h
  exact ⟨⟨m, cell_stays h1 hb⟩, ⟨t2, p2, cell_stays h2 hb⟩, ⟨t3, p3, cell_stays h3 hb⟩, Go.Joins.tab_stays pow10_named h4 hb (Nat.le_refl _)⟩
end Go.Proofs.YtappdmioncdefaaDoor.Q
