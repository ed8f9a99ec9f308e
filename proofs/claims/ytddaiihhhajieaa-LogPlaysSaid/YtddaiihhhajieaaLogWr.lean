/- What the log's write comes to, as plain data: the parts one by one, then a sync. No Go in sight (the walk of 62 is still to be made). -/
import Derived.Test.YtddaiihhhajieaaLogMem
import Derived.Test.YtddaiihhhajieaaFull
namespace Go.Proofs.Ytddaiihhhajieaa

/-- the bytes of part k -/
def partOf (s : ByteArray) (k : Nat) : ByteArray := (s.extract (52 * k) s.size).extract 0 (min 52 (s.extract (52 * k) s.size).size)
def hdAt (epoch group n : Nat) (s : ByteArray) (k : Nat) : Hd := ⟨epoch, group, k, k + 1 == n, (partOf s k).size⟩
/-- the parts from number k on: f of them -/
def wrParts (side pos epoch group n : Nat) (s : ByteArray) : Nat → Nat → Dk → Int × Dk
  | 0, _, D => (0, D)
  | f + 1, k, D =>
    let r := D.wr ((256 * side + pos + k : Nat) : Int) ((hdAt epoch group n s k).block (partOf s k))
    if r.1 ≠ 0 then r else wrParts side pos epoch group n s f (k + 1) r.2
/-- a group is written, and lasts -/
def wrGroup (D : Dk) (side pos epoch group : Nat) (s : ByteArray) : Int × Dk :=
  let r := wrParts side pos epoch group (needN s.size) s (needN s.size) 0 D
  if r.1 ≠ 0 then r else r.2.sync
theorem full_wrParts {side pos epoch group n : Nat} {s : ByteArray} (f : Nat) : ∀ (k : Nat) (D : Dk), Full D → Full (wrParts side pos epoch group n s f k D).2 := by
  induction f with
  | zero => exact fun _ _ h => h
  | succ f ih =>
    intro k D h
    unfold wrParts
    simp only
    split
    · exact full_wr h _ _
    · exact ih (k + 1) _ (full_wr h _ _)
theorem full_wrGroup {D : Dk} (h : Full D) (side pos epoch group : Nat) (s : ByteArray) : Full (wrGroup D side pos epoch group s).2 := by
  unfold wrGroup
  simp only
  split
  · exact full_wrParts _ _ _ h
  · exact full_sync (full_wrParts _ _ _ h)
end Go.Proofs.Ytddaiihhhajieaa
