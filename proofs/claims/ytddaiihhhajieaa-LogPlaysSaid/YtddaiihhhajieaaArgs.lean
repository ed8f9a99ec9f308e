/- Arguments as plain data: a slice of strings, of operations, of pairs, of slices: what the walks read of them, and that every value that can be read is of this form. -/
import Derived.Test.YtddaiihhhajieaaMem
import Derived.Deep.Slices
import Derived.Lib.SmallJoins
import Derived.ProofKit
import Derived.OpenShut
namespace Go.Proofs.Ytddaiihhhajieaa
open Go.RowKit Go.ChangeShapes Go.WideShapes Go.Deep Go.Joins

/-- A slice whose elements read by E (each of 'size' cells) as l. -/
def SliceOf {α : Type} (E : World → Nat → Nat → α → Prop) (size : Nat) (w : World) (v : Value) (l : List α) : Prop :=
  ∃ A c, v = .slice A l.length c ∧ l.length ≤ c ∧ c ≤ 9223372036854775807 ∧ ∀ i (hi : i < l.length), ∃ b off, A = some ⟨b, off, none⟩ ∧ E w b (off + i * size) (l[i]'hi)
/-- what an element's reading must bear -/
def Stays {α : Type} (E : World → Nat → Nat → α → Prop) : Prop := ∀ w w' b o a, E w b o a → Below w.heap.size w w' → E w' b o a

theorem SliceOf.below {α : Type} {E : World → Nat → Nat → α → Prop} (hE : Stays E) {size : Nat} {w w' : World} {v : Value} {l : List α} (h : SliceOf E size w v l) (hb : Below w.heap.size w w') : SliceOf E size w' v l := by
  obtain ⟨A, c, hv, hc, hm, hx⟩ := h
  exact ⟨A, c, hv, hc, hm, fun i hi => by obtain ⟨b, off, hA, he⟩ := hx i hi; exact ⟨b, off, hA, hE _ _ _ _ _ he hb⟩⟩
theorem cell_stays {w w' : World} {p : Addr} {v : Value} (h : w.cell? p = some v) (hb : Below w.heap.size w w') : w'.cell? p = some v :=
  (hb.cell (World.block_lt_of_cell? w p h)).trans h

def I64 (n : Int) : Prop := -9223372036854775808 ≤ n ∧ n ≤ 9223372036854775807
theorem i64_of_wf {n : Int} (h : (Lit.int .i64 n).wf = true) : I64 n := by
  have := h
  simp [Lit.wf, IntKind.min, IntKind.max, IntKind.signed, IntKind.bits] at this
  exact this

/-! ### the elements -/
def EStr (w : World) (b o : Nat) (s : ByteArray) : Prop := w.cell? ⟨b, o, none⟩ = some (.string s) ∧ s.size ≤ 9223372036854775807
theorem EStr.stays : Stays EStr := fun _ _ _ _ _ h hb => ⟨cell_stays h.1 hb, h.2⟩
/-- a []string -/
abbrev IsStrs : World → Value → List ByteArray → Prop := SliceOf EStr 1

structure Op18 where
  do_ : Int
  n : Int
  s : ByteArray
  torn : Bool
structure EOp18 (w : World) (b o : Nat) (x : Op18) : Prop where
  c0 : w.cell? ⟨b, o, none⟩ = some (.int .i64 x.do_)
  c1 : w.cell? ⟨b, o + 1, none⟩ = some (.int .i64 x.n)
  c2 : w.cell? ⟨b, o + 2, none⟩ = some (.string x.s)
  c3 : w.cell? ⟨b, o + 3, none⟩ = some (.bool x.torn)
  r0 : I64 x.do_
  r1 : I64 x.n
  r2 : x.s.size ≤ 9223372036854775807
theorem EOp18.stays : Stays EOp18 := fun _ _ _ _ _ h hb => ⟨cell_stays h.c0 hb, cell_stays h.c1 hb, cell_stays h.c2 hb, cell_stays h.c3 hb, h.r0, h.r1, h.r2⟩
abbrev IsOps18 : World → Value → List Op18 → Prop := SliceOf EOp18 4

def EStrs (w : World) (b o : Nat) (l : List ByteArray) : Prop := ∃ v, w.cell? ⟨b, o, none⟩ = some v ∧ IsStrs w v l
theorem EStrs.stays : Stays EStrs := fun _ _ _ _ _ ⟨v, h, hs⟩ hb => ⟨v, cell_stays h hb, hs.below EStr.stays hb⟩
/-- a [][]string -/
abbrev IsGroups : World → Value → List (List ByteArray) → Prop := SliceOf EStrs 1

structure Op19 where
  do_ : Int
  n : Int
  recs : List ByteArray
  torn : Bool
structure EOp19 (w : World) (b o : Nat) (x : Op19) : Prop where
  c0 : w.cell? ⟨b, o, none⟩ = some (.int .i64 x.do_)
  c1 : w.cell? ⟨b, o + 1, none⟩ = some (.int .i64 x.n)
  c2 : EStrs w b (o + 2) x.recs
  c3 : w.cell? ⟨b, o + 3, none⟩ = some (.bool x.torn)
  r0 : I64 x.do_
  r1 : I64 x.n
theorem EOp19.stays : Stays EOp19 := fun _ _ _ _ _ h hb => ⟨cell_stays h.c0 hb, cell_stays h.c1 hb, EStrs.stays _ _ _ _ _ h.c2 hb, cell_stays h.c3 hb, h.r0, h.r1⟩
abbrev IsOps19 : World → Value → List Op19 → Prop := SliceOf EOp19 4

structure EPair (w : World) (b o : Nat) (x : ByteArray × ByteArray) : Prop where
  c0 : w.cell? ⟨b, o, none⟩ = some (.string x.1)
  c1 : w.cell? ⟨b, o + 1, none⟩ = some (.string x.2)
  r0 : x.1.size ≤ 9223372036854775807
  r1 : x.2.size ≤ 9223372036854775807
theorem EPair.stays : Stays EPair := fun _ _ _ _ _ h hb => ⟨cell_stays h.c0 hb, cell_stays h.c1 hb, h.r0, h.r1⟩
/-- a []api.Pair -/
abbrev IsPairs : World → Value → List (ByteArray × ByteArray) → Prop := SliceOf EPair 2

structure Op20 where
  do_ : Int
  n : Int
  puts : List (ByteArray × ByteArray)
  drops : List ByteArray
  torn : Bool
structure EOp20 (w : World) (b o : Nat) (x : Op20) : Prop where
  c0 : w.cell? ⟨b, o, none⟩ = some (.int .i64 x.do_)
  c1 : w.cell? ⟨b, o + 1, none⟩ = some (.int .i64 x.n)
  c2 : ∃ v, w.cell? ⟨b, o + 2, none⟩ = some v ∧ IsPairs w v x.puts
  c3 : EStrs w b (o + 3) x.drops
  c4 : w.cell? ⟨b, o + 4, none⟩ = some (.bool x.torn)
  r0 : I64 x.do_
  r1 : I64 x.n
theorem EOp20.stays : Stays EOp20 := fun _ _ _ _ _ h hb => ⟨cell_stays h.c0 hb, cell_stays h.c1 hb, (by obtain ⟨v, h1, h2⟩ := h.c2; exact ⟨v, cell_stays h1 hb, h2.below EPair.stays hb⟩), EStrs.stays _ _ _ _ _ h.c3 hb, cell_stays h.c4 hb, h.r0, h.r1⟩
abbrev IsOps20 : World → Value → List Op20 → Prop := SliceOf EOp20 5

/-! ### down: from what the row gives -/
section
variable {H : Type} {enc : TypeId × Value → H} {P : Program} {w : World} {base : Nat} {spare : Nat → Bool} {held : Bool}

/-- the cells of an element, one by one -/
theorem cells_at {a : Addr} {n : Nat} {cs : List Value} (hn : 0 < n) (h : w.cells? base a n = some cs) :
    ∃ b o, a = ⟨b, o, none⟩ ∧ cs.length = n ∧ ∀ j, j < n → w.cell? ⟨b, o + j, none⟩ = cs[j]? := by
  obtain ⟨h1, h2, h3⟩ := World.cells?_some h
  obtain ⟨b, o, sp⟩ := a
  have hsp : sp = none := by
    have h0 := h3 0 hn
    rw [List.getElem?_eq_getElem (by omega)] at h0
    cases sp with
    | none => rfl
    | some s =>
      exfalso
      simp [Addr.add, World.cell?] at h0
      split at h0 <;> simp at h0
  subst hsp
  refine ⟨b, o, rfl, h2, fun j hj => ?_⟩
  have := h3 j hj
  rw [← this]
  congr 1
  unfold Addr.add
  split
  · rename_i e; subst e; rfl
  · rfl

theorem slice_down {α : Type} [Inhabited α] {t e : TypeId} {size : Nat} (ht : P.underlying t = some (.slice e)) (hs : P.cellsOf e = size) (hpos : 0 < size) (E : World → Nat → Nat → α → Prop)
    (hE : ∀ n b o cs d, (∀ j, j < size → w.cell? ⟨b, o + j, none⟩ = cs[j]?) → cs.length = size → DataW.trod enc P w base spare held n e cs = some d → ∃ x, E w b o x)
    {fuel : Nat} {v : Value} {x : DataW H × List MemPlace} (h : DataW.trod enc P w base spare held fuel t [v] = some x) : ∃ l, SliceOf E size w v l := by
  rcases open_slice ht h with ⟨hv, _⟩ | ⟨a, len, cap, m, n, D, Pl, hv, _, hl, hm, hmm, _, hx⟩
  · obtain rfl : v = .slice none 0 0 := by simpa using hv
    exact ⟨[], none, 0, rfl, Nat.le_refl _, by omega, fun i hi => absurd hi (by simp)⟩
  · obtain rfl : v = .slice (some a) len cap := by simpa using hv
    have hlm : len ≤ m := by rw [hmm]; split <;> omega
    have ha : 0 < len → ∃ b off, a = ⟨b, off, none⟩ := by
      intro h0
      obtain ⟨cs, h1, _⟩ := hx 0 (by omega)
      rw [hs, Nat.zero_mul] at h1
      obtain ⟨b, o, ha, _⟩ := cells_at hpos h1
      exact ⟨b, o, by simpa [Addr.add] using ha⟩
    have hex : ∀ i, i < len → ∃ x : α, ∃ b off, a = ⟨b, off, none⟩ ∧ E w b (off + i * size) x := by
      intro i hi
      obtain ⟨b0, o0, rfl⟩ := ha (by omega)
      obtain ⟨cs, h1, h2⟩ := hx i (by omega)
      rw [hs] at h1
      obtain ⟨b, o, ha, hlen, hc⟩ := cells_at hpos h1
      obtain ⟨y, hy⟩ := hE n b o cs _ hc hlen h2
      have ha' : b = b0 ∧ o = o0 + i * size := by
        unfold Addr.add at ha
        split at ha
        · rename_i e0
          injection ha with e1 e2
          rw [e0]; exact ⟨e1.symm, e2.symm⟩
        · injection ha with e1 e2
          exact ⟨e1.symm, e2.symm⟩
      obtain ⟨rfl, rfl⟩ := ha'
      exact ⟨y, b, o0, rfl, hy⟩
    obtain ⟨f, hf⟩ := choose_lt hex
    refine ⟨(List.range len).map f, some a, cap, by simp, by simpa using hl, (by simpa [maxLen] using hm), fun i hi => ?_⟩
    have hi' : i < len := by simpa using hi
    obtain ⟨b, off, ha, he⟩ := hf i hi'
    exact ⟨b, off, by rw [ha], by simpa using he⟩
end

instance : Inhabited Op18 := ⟨⟨0, 0, ByteArray.empty, false⟩⟩
instance : Inhabited Op19 := ⟨⟨0, 0, [], false⟩⟩
instance : Inhabited Op20 := ⟨⟨0, 0, [], [], false⟩⟩

theorem Try.cells3 : Try.prog.cellsOf 3 = 1 := by kernel_rfl
theorem Try.cells4 : Try.prog.cellsOf 4 = 1 := by kernel_rfl
theorem Try.cells9 : Try.prog.cellsOf 9 = 1 := by kernel_rfl
theorem Try.cells36 : Try.prog.cellsOf 36 = 4 := by kernel_rfl
theorem Try.cells51 : Try.prog.cellsOf 51 = 1 := by kernel_rfl
theorem Try.cells66 : Try.prog.cellsOf 66 = 4 := by kernel_rfl
theorem Try.cells77 : Try.prog.cellsOf 77 = 2 := by kernel_rfl
theorem Try.cells78 : Try.prog.cellsOf 78 = 1 := by kernel_rfl
theorem Try.cells86 : Try.prog.cellsOf 86 = 5 := by kernel_rfl

section
variable {H : Type} {enc : TypeId × Value → H} {w : World} {base : Nat} {spare : Nat → Bool} {held : Bool}
theorem list2 {α : Type} {l : List α} (h : l.length = 2) : ∃ a b, l = [a, b] := by
  match l, h with
  | [a, b], _ => exact ⟨a, b, rfl⟩
theorem list4 {α : Type} {l : List α} (h : l.length = 4) : ∃ a b c d, l = [a, b, c, d] := by
  match l, h with
  | [a, b, c, d], _ => exact ⟨a, b, c, d, rfl⟩
theorem list5 {α : Type} {l : List α} (h : l.length = 5) : ∃ a b c d e, l = [a, b, c, d, e] := by
  match l, h with
  | [a, b, c, d, e], _ => exact ⟨a, b, c, d, e, rfl⟩
theorem down_strs {fuel : Nat} {v : Value} {x : DataW H × List MemPlace} (h : DataW.trod enc Try.prog w base spare held fuel 51 [v] = some x) : ∃ l, IsStrs w v l :=
  slice_down Try.underlying51 Try.cells9 (by omega) EStr (fun n b o cs d hc hl ht => by
    obtain ⟨s, rfl, _, hs⟩ := DataW.trod_string Try.underlying9 ht
    exact ⟨s, by simpa using hc 0 (by omega), by simpa [maxLen] using hs⟩) h

theorem down_groups {fuel : Nat} {v : Value} {x : DataW H × List MemPlace} (h : DataW.trod enc Try.prog w base spare held fuel 50 [v] = some x) : ∃ l, IsGroups w v l :=
  slice_down Try.underlying50 Try.cells51 (by omega) EStrs (fun n b o cs d hc hl ht => by
    match cs, hl with
    | [u], _ =>
      obtain ⟨l, hl⟩ := down_strs ht
      exact ⟨l, u, by simpa using hc 0 (by omega), hl⟩) h

theorem down_pairs {fuel : Nat} {v : Value} {x : DataW H × List MemPlace} (h : DataW.trod enc Try.prog w base spare held fuel 78 [v] = some x) : ∃ l, IsPairs w v l :=
  slice_down Try.underlying78 Try.cells77 (by omega) EPair (fun n b o cs d hc hl ht => by
    obtain ⟨y0, y1, k, _, _, t0, t1⟩ := trod_struct2 Try.underlying77 ht
    obtain ⟨u0, u1, rfl⟩ := list2 hl
    · have t0' : DataW.trod enc Try.prog w base spare held k 9 (([u0, u1].drop 0).take (Try.prog.cellsOf 9)) = some y0 := t0
      rw [Try.cells9] at t0'
      replace t0 : DataW.trod enc Try.prog w base spare held k 9 [u0] = some y0 := t0'
      clear t0'
      have t1' : DataW.trod enc Try.prog w base spare held k 9 (([u0, u1].drop 1).take (Try.prog.cellsOf 9)) = some y1 := t1
      rw [Try.cells9] at t1'
      replace t1 : DataW.trod enc Try.prog w base spare held k 9 [u1] = some y1 := t1'
      clear t1'
      obtain ⟨s0, e0, _, h0⟩ := DataW.trod_string Try.underlying9 t0
      obtain ⟨s1, e1, _, h1⟩ := DataW.trod_string Try.underlying9 t1
      obtain rfl : u0 = .string s0 := by simpa using e0
      obtain rfl : u1 = .string s1 := by simpa using e1
      exact ⟨(s0, s1), by simpa using hc 0 (by omega), by simpa using hc 1 (by omega), by simpa [maxLen] using h0, by simpa [maxLen] using h1⟩) h

theorem down_ops18 {fuel : Nat} {v : Value} {x : DataW H × List MemPlace} (h : DataW.trod enc Try.prog w base spare held fuel 34 [v] = some x) : ∃ l, IsOps18 w v l :=
  slice_down Try.underlying34 Try.cells36 (by omega) EOp18 (fun n b o cs d hc hl ht => by
    obtain ⟨y0, y1, y2, y3, k, _, _, t0, t1, t2, t3⟩ := trod_struct4 Try.underlying36 ht
    obtain ⟨u0, u1, u2, u3, rfl⟩ := list4 hl
    · have t0' : DataW.trod enc Try.prog w base spare held k 3 (([u0, u1, u2, u3].drop 0).take (Try.prog.cellsOf 3)) = some y0 := t0
      rw [Try.cells3] at t0'
      replace t0 : DataW.trod enc Try.prog w base spare held k 3 [u0] = some y0 := t0'
      clear t0'
      have t1' : DataW.trod enc Try.prog w base spare held k 3 (([u0, u1, u2, u3].drop 1).take (Try.prog.cellsOf 3)) = some y1 := t1
      rw [Try.cells3] at t1'
      replace t1 : DataW.trod enc Try.prog w base spare held k 3 [u1] = some y1 := t1'
      clear t1'
      have t2' : DataW.trod enc Try.prog w base spare held k 9 (([u0, u1, u2, u3].drop 2).take (Try.prog.cellsOf 9)) = some y2 := t2
      rw [Try.cells9] at t2'
      replace t2 : DataW.trod enc Try.prog w base spare held k 9 [u2] = some y2 := t2'
      clear t2'
      have t3' : DataW.trod enc Try.prog w base spare held k 4 (([u0, u1, u2, u3].drop 3).take (Try.prog.cellsOf 4)) = some y3 := t3
      rw [Try.cells4] at t3'
      replace t3 : DataW.trod enc Try.prog w base spare held k 4 [u3] = some y3 := t3'
      clear t3'
      obtain ⟨n0, e0, _, h0⟩ := DataW.trod_int Try.underlying3 t0
      obtain ⟨n1, e1, _, h1⟩ := DataW.trod_int Try.underlying3 t1
      obtain ⟨s2, e2, _, h2⟩ := DataW.trod_string Try.underlying9 t2
      obtain ⟨b3, e3, _⟩ := DataW.trod_bool Try.underlying4 t3
      obtain rfl : u0 = .int .i64 n0 := by simpa using e0
      obtain rfl : u1 = .int .i64 n1 := by simpa using e1
      obtain rfl : u2 = .string s2 := by simpa using e2
      obtain rfl : u3 = .bool b3 := by simpa using e3
      exact ⟨⟨n0, n1, s2, b3⟩, by simpa using hc 0 (by omega), by simpa using hc 1 (by omega), by simpa using hc 2 (by omega), by simpa using hc 3 (by omega), i64_of_wf h0, i64_of_wf h1, by simpa [maxLen] using h2⟩) h

theorem down_ops19 {fuel : Nat} {v : Value} {x : DataW H × List MemPlace} (h : DataW.trod enc Try.prog w base spare held fuel 60 [v] = some x) : ∃ l, IsOps19 w v l :=
  slice_down Try.underlying60 Try.cells66 (by omega) EOp19 (fun n b o cs d hc hl ht => by
    obtain ⟨y0, y1, y2, y3, k, _, _, t0, t1, t2, t3⟩ := trod_struct4 Try.underlying66 ht
    obtain ⟨u0, u1, u2, u3, rfl⟩ := list4 hl
    · have t0' : DataW.trod enc Try.prog w base spare held k 3 (([u0, u1, u2, u3].drop 0).take (Try.prog.cellsOf 3)) = some y0 := t0
      rw [Try.cells3] at t0'
      replace t0 : DataW.trod enc Try.prog w base spare held k 3 [u0] = some y0 := t0'
      clear t0'
      have t1' : DataW.trod enc Try.prog w base spare held k 3 (([u0, u1, u2, u3].drop 1).take (Try.prog.cellsOf 3)) = some y1 := t1
      rw [Try.cells3] at t1'
      replace t1 : DataW.trod enc Try.prog w base spare held k 3 [u1] = some y1 := t1'
      clear t1'
      have t2' : DataW.trod enc Try.prog w base spare held k 51 (([u0, u1, u2, u3].drop 2).take (Try.prog.cellsOf 51)) = some y2 := t2
      rw [Try.cells51] at t2'
      replace t2 : DataW.trod enc Try.prog w base spare held k 51 [u2] = some y2 := t2'
      clear t2'
      have t3' : DataW.trod enc Try.prog w base spare held k 4 (([u0, u1, u2, u3].drop 3).take (Try.prog.cellsOf 4)) = some y3 := t3
      rw [Try.cells4] at t3'
      replace t3 : DataW.trod enc Try.prog w base spare held k 4 [u3] = some y3 := t3'
      clear t3'
      obtain ⟨n0, e0, _, h0⟩ := DataW.trod_int Try.underlying3 t0
      obtain ⟨n1, e1, _, h1⟩ := DataW.trod_int Try.underlying3 t1
      obtain ⟨l, hls⟩ := down_strs t2
      obtain ⟨b3, e3, _⟩ := DataW.trod_bool Try.underlying4 t3
      obtain rfl : u0 = .int .i64 n0 := by simpa using e0
      obtain rfl : u1 = .int .i64 n1 := by simpa using e1
      obtain rfl : u3 = .bool b3 := by simpa using e3
      exact ⟨⟨n0, n1, l, b3⟩, by simpa using hc 0 (by omega), by simpa using hc 1 (by omega), ⟨u2, by simpa using hc 2 (by omega), hls⟩, by simpa using hc 3 (by omega), i64_of_wf h0, i64_of_wf h1⟩) h

theorem trod_struct5 {P : Program} {t : TypeId} {f0 f1 f2 f3 f4 : Field} {fuel : Nat} {cs : List Value} {x : DataW H × List MemPlace} (ht : P.underlying t = some (.struct #[f0, f1, f2, f3, f4])) (h : DataW.trod enc P w base spare held fuel t cs = some x) :
    ∃ y0 y1 y2 y3 y4 n, DataW.trod enc P w base spare held n f0.type ((cs.drop f0.offset).take (P.cellsOf f0.type)) = some y0 ∧
      DataW.trod enc P w base spare held n f1.type ((cs.drop f1.offset).take (P.cellsOf f1.type)) = some y1 ∧ DataW.trod enc P w base spare held n f2.type ((cs.drop f2.offset).take (P.cellsOf f2.type)) = some y2 ∧
      DataW.trod enc P w base spare held n f3.type ((cs.drop f3.offset).take (P.cellsOf f3.type)) = some y3 ∧ DataW.trod enc P w base spare held n f4.type ((cs.drop f4.offset).take (P.cellsOf f4.type)) = some y4 := by
  obtain ⟨xs, n, _, rfl, hl, hlen, hf⟩ := DataW.trod_struct ht h
  match xs, hlen with
  | [y0, y1, y2, y3, y4], _ => exact ⟨y0, y1, y2, y3, y4, n, by simpa using hf 0 f0 rfl, by simpa using hf 1 f1 rfl, by simpa using hf 2 f2 rfl, by simpa using hf 3 f3 rfl, by simpa using hf 4 f4 rfl⟩

theorem down_ops20 {fuel : Nat} {v : Value} {x : DataW H × List MemPlace} (h : DataW.trod enc Try.prog w base spare held fuel 84 [v] = some x) : ∃ l, IsOps20 w v l :=
  slice_down Try.underlying84 Try.cells86 (by omega) EOp20 (fun n b o cs d hc hl ht => by
    obtain ⟨y0, y1, y2, y3, y4, k, t0, t1, t2, t3, t4⟩ := trod_struct5 Try.underlying86 ht
    obtain ⟨u0, u1, u2, u3, u4, rfl⟩ := list5 hl
    · have t0' : DataW.trod enc Try.prog w base spare held k 3 (([u0, u1, u2, u3, u4].drop 0).take (Try.prog.cellsOf 3)) = some y0 := t0
      rw [Try.cells3] at t0'
      replace t0 : DataW.trod enc Try.prog w base spare held k 3 [u0] = some y0 := t0'
      clear t0'
      have t1' : DataW.trod enc Try.prog w base spare held k 3 (([u0, u1, u2, u3, u4].drop 1).take (Try.prog.cellsOf 3)) = some y1 := t1
      rw [Try.cells3] at t1'
      replace t1 : DataW.trod enc Try.prog w base spare held k 3 [u1] = some y1 := t1'
      clear t1'
      have t2' : DataW.trod enc Try.prog w base spare held k 78 (([u0, u1, u2, u3, u4].drop 2).take (Try.prog.cellsOf 78)) = some y2 := t2
      rw [Try.cells78] at t2'
      replace t2 : DataW.trod enc Try.prog w base spare held k 78 [u2] = some y2 := t2'
      clear t2'
      have t3' : DataW.trod enc Try.prog w base spare held k 51 (([u0, u1, u2, u3, u4].drop 3).take (Try.prog.cellsOf 51)) = some y3 := t3
      rw [Try.cells51] at t3'
      replace t3 : DataW.trod enc Try.prog w base spare held k 51 [u3] = some y3 := t3'
      clear t3'
      have t4' : DataW.trod enc Try.prog w base spare held k 4 (([u0, u1, u2, u3, u4].drop 4).take (Try.prog.cellsOf 4)) = some y4 := t4
      rw [Try.cells4] at t4'
      replace t4 : DataW.trod enc Try.prog w base spare held k 4 [u4] = some y4 := t4'
      clear t4'
      obtain ⟨n0, e0, _, h0⟩ := DataW.trod_int Try.underlying3 t0
      obtain ⟨n1, e1, _, h1⟩ := DataW.trod_int Try.underlying3 t1
      obtain ⟨l2, hl2⟩ := down_pairs t2
      obtain ⟨l3, hl3⟩ := down_strs t3
      obtain ⟨b4, e4, _⟩ := DataW.trod_bool Try.underlying4 t4
      obtain rfl : u0 = .int .i64 n0 := by simpa using e0
      obtain rfl : u1 = .int .i64 n1 := by simpa using e1
      obtain rfl : u4 = .bool b4 := by simpa using e4
      exact ⟨⟨n0, n1, l2, l3, b4⟩, by simpa using hc 0 (by omega), by simpa using hc 1 (by omega), ⟨u2, by simpa using hc 2 (by omega), hl2⟩, ⟨u3, by simpa using hc 3 (by omega), hl3⟩, by simpa using hc 4 (by omega), i64_of_wf h0, i64_of_wf h1⟩) h
end

end Go.Proofs.Ytddaiihhhajieaa
