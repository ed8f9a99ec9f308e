/- A slice of signatures as plain data: that every value that can be read is of the form that the printed contracts ask. -/
import Derived.Test.YtappdmioncdefaaDoorLaid
import Derived.Test.YtappdmioncdefaaDoorQ0
import Derived.Deep.Slices
namespace Go.Proofs.YtappdmioncdefaaDoor
open Go.RowKit Go.ChangeShapes Go.WideShapes Go.Deep Go.Proofs.YtappdmioncdefaaDoorW.PrintWords

/-- A slice whose elements read by E (each of 'size' cells) as l. -/
def SliceOf {α : Type} (E : World → Nat → Nat → α → Prop) (size : Nat) (w : World) (v : Value) (l : List α) : Prop :=
  ∃ A c, v = .slice A l.length c ∧ l.length ≤ c ∧ c ≤ 9223372036854775807 ∧ ∀ i (hi : i < l.length), ∃ b off, A = some ⟨b, off, none⟩ ∧ E w b (off + i * size) (l[i]'hi)
section
variable {H : Type} {enc : TypeId × Value → H} {P : Program} {w : World} {base : Nat} {spare : Nat → Bool} {held : Bool}

/-- the cells of an element, one by one -/
theorem cells_at {a : Addr} {n : Nat} {cs : List Value} (hn : 0 < n) (h : w.cells? base a n = some cs) :
    ∃ b o, a = ⟨b, o, none⟩ ∧ cs.length = n ∧ ∀ j, j < n → w.cell? ⟨b, o + j, none⟩ = cs[j]? := by
  obtain ⟨h1, h2, h3⟩ := World.cells?_some h
  obtain ⟨b, o, sp⟩ := a
  have hsp : sp = none := by
    have h0 := h3 0 hn
    rw [List.getElem?_eq_getElem (by omega)] at h0
    cases sp with
    | none => rfl
    | some s =>
      exfalso
      simp [Addr.add, World.cell?] at h0
      split at h0 <;> simp at h0
  subst hsp
  refine ⟨b, o, rfl, h2, fun j hj => ?_⟩
  have := h3 j hj
  rw [← this]
  congr 1
  unfold Addr.add
  split
  · rename_i e; subst e; rfl
  · rfl

theorem slice_down {α : Type} [Inhabited α] {t e : TypeId} {size : Nat} (ht : P.underlying t = some (.slice e)) (hs : P.cellsOf e = size) (hpos : 0 < size) (E : World → Nat → Nat → α → Prop)
    (hE : ∀ n b o cs d, (∀ j, j < size → w.cell? ⟨b, o + j, none⟩ = cs[j]?) → cs.length = size → DataW.trod enc P w base spare held n e cs = some d → ∃ x, E w b o x)
    {fuel : Nat} {v : Value} {x : DataW H × List MemPlace} (h : DataW.trod enc P w base spare held fuel t [v] = some x) : ∃ l, SliceOf E size w v l := by
  rcases open_slice ht h with ⟨hv, _⟩ | ⟨a, len, cap, m, n, D, Pl, hv, _, hl, hm, hmm, _, hx⟩
  · obtain rfl : v = .slice none 0 0 := by simpa using hv
    exact ⟨[], none, 0, rfl, Nat.le_refl _, by omega, fun i hi => absurd hi (by simp)⟩
  · obtain rfl : v = .slice (some a) len cap := by simpa using hv
    have hlm : len ≤ m := by rw [hmm]; split <;> omega
    have ha : 0 < len → ∃ b off, a = ⟨b, off, none⟩ := by
      intro h0
      obtain ⟨cs, h1, _⟩ := hx 0 (by omega)
      rw [hs, Nat.zero_mul] at h1
      obtain ⟨b, o, ha, _⟩ := cells_at hpos h1
      exact ⟨b, o, by simpa [Addr.add] using ha⟩
    have hex : ∀ i, i < len → ∃ x : α, ∃ b off, a = ⟨b, off, none⟩ ∧ E w b (off + i * size) x := by
      intro i hi
      obtain ⟨b0, o0, rfl⟩ := ha (by omega)
      obtain ⟨cs, h1, h2⟩ := hx i (by omega)
      rw [hs] at h1
      obtain ⟨b, o, ha, hlen, hc⟩ := cells_at hpos h1
      obtain ⟨y, hy⟩ := hE n b o cs _ hc hlen h2
      have ha' : b = b0 ∧ o = o0 + i * size := by
        unfold Addr.add at ha
        split at ha
        · rename_i e0
          injection ha with e1 e2
          rw [e0]; exact ⟨e1.symm, e2.symm⟩
        · injection ha with e1 e2
          exact ⟨e1.symm, e2.symm⟩
      obtain ⟨rfl, rfl⟩ := ha'
      exact ⟨y, b, o0, rfl, hy⟩
    obtain ⟨f, hf⟩ := choose_lt hex
    refine ⟨(List.range len).map f, some a, cap, by simp, by simpa using hl, (by simpa [maxLen] using hm), fun i hi => ?_⟩
    have hi' : i < len := by simpa using hi
    obtain ⟨b, off, ha, he⟩ := hf i hi'
    exact ⟨b, off, by rw [ha], by simpa using he⟩
end

section
variable {H : Type} {enc : TypeId × Value → H} {w : World} {base : Nat} {spare : Nat → Bool} {held : Bool}
/-- an element's cells, as a kind reads them -/
def EKd {α : Type} (d : Kd α) (w : World) (b o : Nat) (x : α) : Prop := ∃ cs : List Value, cs.length = d.sz ∧ d.K w x cs ∧ ∀ j, j < d.sz → w.cell? ⟨b, o + j, none⟩ = cs[j]?
theorem sliceOf_C {α : Type} {d : Kd α} {w : World} {v : Value} {l : List α} (h : SliceOf (EKd d) d.sz w v l) : ∃ A c, v = .slice A l.length c ∧ l.length ≤ c ∧ d.C w A l.length l := by
  obtain ⟨A, c, hv, hc, hm, hx⟩ := h
  refine ⟨A, c, hv, hc, rfl, by omega, fun h0 => ?_⟩
  obtain ⟨b, off, hA, _⟩ := hx 0 h0
  refine ⟨⟨b, off, none⟩, hA, fun j p hj => ?_⟩
  obtain ⟨hjl, rfl⟩ := List.getElem?_eq_some_iff.1 hj
  obtain ⟨b', off', hA', cs, hl, hK, hcell⟩ := hx j hjl
  rw [hA] at hA'
  injection hA' with hA'
  injection hA' with e1 e2
  subst e1; subst e2
  refine ⟨cs, hl, hK, fun i u hu => ?_⟩
  have hi : i < cs.length := (List.getElem?_eq_some_iff.1 hu).1
  have ha : (⟨b, off, none⟩ : Addr).add (j * d.sz + i) = ⟨b, off + j * d.sz + i, none⟩ := by
    unfold Addr.add
    split
    · rename_i e; have e1 : j * d.sz = 0 := by omega
      have e2 : i = 0 := by omega
      rw [e1, e2]; rfl
    · simp [Nat.add_assoc]
  rw [ha, hcell i (by omega), hu]
theorem cells46 : Tryd.prog.cellsOf 46 = 2 := by kernel_rfl
theorem cells34 : Tryd.prog.cellsOf 34 = 3 := by kernel_rfl
theorem cells3 : Tryd.prog.cellsOf 3 = 1 := by kernel_rfl
theorem cells4 : Tryd.prog.cellsOf 4 = 1 := by kernel_rfl
theorem cells9 : Tryd.prog.cellsOf 9 = 1 := by kernel_rfl
theorem cells32 : Tryd.prog.cellsOf 32 = 1 := by kernel_rfl
instance : Inhabited Q.S46 := ⟨Q.z46⟩
instance : Inhabited Q.S34 := ⟨Q.z34⟩
theorem list2 {α : Type} {l : List α} (h : l.length = 2) : ∃ a b, l = [a, b] := by
  match l, h with
  | [a, b], _ => exact ⟨a, b, rfl⟩
theorem list3 {α : Type} {l : List α} (h : l.length = 3) : ∃ a b c, l = [a, b, c] := by
  match l, h with
  | [a, b, c], _ => exact ⟨a, b, c, rfl⟩
theorem down_types {fuel : Nat} {v : Value} {x : DataW H × List MemPlace} (h : DataW.trod enc Tryd.prog w base spare held fuel 32 [v] = some x) : ∃ l, SliceOf (EKd Q.k46) 2 w v l :=
  slice_down Tryd.underlying32 cells46 (by omega) (EKd Q.k46) (fun n b o cs d hc hl ht => by
    obtain ⟨y0, y1, k, _, _, t0, t1⟩ := trod_struct2 Tryd.underlying46 ht
    obtain ⟨u0, u1, rfl⟩ := list2 hl
    have t0' : DataW.trod enc Tryd.prog w base spare held k 4 (([u0, u1].drop 0).take (Tryd.prog.cellsOf 4)) = some y0 := t0
    rw [cells4] at t0'
    replace t0 : DataW.trod enc Tryd.prog w base spare held k 4 [u0] = some y0 := t0'
    have t1' : DataW.trod enc Tryd.prog w base spare held k 3 (([u0, u1].drop 1).take (Tryd.prog.cellsOf 3)) = some y1 := t1
    rw [cells3] at t1'
    replace t1 : DataW.trod enc Tryd.prog w base spare held k 3 [u1] = some y1 := t1'
    obtain ⟨b0, e0, _⟩ := DataW.trod_bool Tryd.underlying4 t0
    obtain ⟨n1, e1, _, _⟩ := DataW.trod_int Tryd.underlying3 t1
    obtain rfl : u0 = .bool b0 := by simpa using e0
    obtain rfl : u1 = .int .i64 n1 := by simpa using e1
    exact ⟨⟨b0, n1⟩, _, rfl, Q.k46_mk w ⟨b0, n1⟩, hc⟩) h
theorem down_sigs0 {fuel : Nat} {v : Value} {x : DataW H × List MemPlace} (h : DataW.trod enc Tryd.prog w base spare held fuel 22 [v] = some x) : ∃ l, SliceOf (EKd Q.k34) 3 w v l :=
  slice_down Tryd.underlying22 cells34 (by omega) (EKd Q.k34) (fun n b o cs d hc hl ht => by
    obtain ⟨y0, y1, y2, k, _, _, t0, t1, t2⟩ := trod_struct3 Tryd.underlying34 ht
    obtain ⟨u0, u1, u2, rfl⟩ := list3 hl
    have t0' : DataW.trod enc Tryd.prog w base spare held k 9 (([u0, u1, u2].drop 0).take (Tryd.prog.cellsOf 9)) = some y0 := t0
    rw [cells9] at t0'
    replace t0 : DataW.trod enc Tryd.prog w base spare held k 9 [u0] = some y0 := t0'
    have t1' : DataW.trod enc Tryd.prog w base spare held k 32 (([u0, u1, u2].drop 1).take (Tryd.prog.cellsOf 32)) = some y1 := t1
    rw [cells32] at t1'
    replace t1 : DataW.trod enc Tryd.prog w base spare held k 32 [u1] = some y1 := t1'
    have t2' : DataW.trod enc Tryd.prog w base spare held k 4 (([u0, u1, u2].drop 2).take (Tryd.prog.cellsOf 4)) = some y2 := t2
    rw [cells4] at t2'
    replace t2 : DataW.trod enc Tryd.prog w base spare held k 4 [u2] = some y2 := t2'
    obtain ⟨s0, e0, _, _⟩ := DataW.trod_string Tryd.underlying9 t0
    obtain ⟨l, hls⟩ := down_types t1
    obtain ⟨A1, c1, hv1, hl1, hC1⟩ := sliceOf_C (d := Q.k46) hls
    obtain ⟨b2, e2, _⟩ := DataW.trod_bool Tryd.underlying4 t2
    obtain rfl : u0 = .string s0 := by simpa using e0
    obtain rfl : u2 = .bool b2 := by simpa using e2
    subst hv1
    exact ⟨⟨s0, l, b2⟩, _, rfl, Q.k34_mk w ⟨s0, l, b2⟩ hl1 hC1, hc⟩) h
/-- a list of signatures, as the contracts read it -/
def IsSigs (w : World) (A : Option Addr) (n c : Nat) (l : List Q.S34) : Prop := n = l.length ∧ l.length ≤ c ∧ Kd.C Q.k34 w A l.length l
theorem down_sigs {fuel : Nat} {A : Option Addr} {n c : Nat} {x : DataW H × List MemPlace} (h : DataW.trod enc Tryd.prog w base spare held fuel 22 (Value.slice A n c).cells.toList = some x) : ∃ l, IsSigs w A n c l := by
  obtain ⟨l, hl⟩ := down_sigs0 (v := .slice A n c) h
  obtain ⟨A', c', hv, hlc, hC⟩ := sliceOf_C (d := Q.k34) hl
  injection hv with e1 e2 e3
  subst e1; subst e2; subst e3
  exact ⟨l, rfl, hlc, hC⟩
end
end Go.Proofs.YtappdmioncdefaaDoor
