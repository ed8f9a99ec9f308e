/- An array of three ints as plain data. -/
import Derived.Test.YtddaiihhhajieaaArgs
import Derived.WideKeyArr2
namespace Go.Proofs.Ytddaiihhhajieaa
open Go.RowKit Go.ChangeShapes Go.WideShapes Go.Deep Go.Joins

theorem Try.cells69 : Try.prog.cellsOf 69 = 3 := by kernel_rfl
section
variable {H : Type} {enc : TypeId × Value → H} {w : World} {base : Nat} {spare : Nat → Bool} {held : Bool}
theorem list3 {α : Type} {l : List α} (h : l.length = 3) : ∃ a b c, l = [a, b, c] := by
  match l, h with
  | [a, b, c], _ => exact ⟨a, b, c, rfl⟩
set_option maxRecDepth 100000 in
theorem down_arr3 {r : Reach} {b0 : Nat} {v : Value} {d : DataW H} {ps : List MemPlace} (hval : Value.okWide Try.prog w r b0 69 v) (h : DataW.Trod enc Try.prog w base spare held 69 v d ps) :
    ∃ x y z, v = .agg #[.int .i64 x, .int .i64 y, .int .i64 z] ∧ I64 x ∧ I64 y ∧ I64 z := by
  simp only [Value.okWide, Try.underlying69] at hval
  obtain ⟨cs, rfl, h2, _⟩ := hval
  rw [Try.cells69] at h2
  obtain ⟨fuel, hf⟩ := h
  cases fuel with
  | zero => simp [DataW.trod] at hf
  | succ m =>
    rw [DataW.trod_step] at hf
    unfold DataW.trodStep at hf
    simp only [Try.underlying69, Value.cells] at hf
    rw [if_pos (by rw [Try.cells69]; simpa using h2)] at hf
    simp only [Option.map_eq_some_iff] at hf
    obtain ⟨ys, hy, _⟩ := hf
    obtain ⟨cl⟩ := cs
    obtain ⟨u0, u1, u2, rfl⟩ := list3 (l := cl) (by simpa using h2)
    have hr : List.range 3 = [0, 1, 2] := rfl
    rw [hr, Try.cells3] at hy
    simp only [List.mapM_cons, List.mapM_nil, bind, Option.bind_eq_some_iff, pure] at hy
    obtain ⟨y0, t0, _, ⟨y1, t1, _, ⟨y2, t2, _⟩, _⟩, _⟩ := hy
    obtain ⟨n0, e0, _, h0⟩ := DataW.trod_int Try.underlying3 t0
    obtain ⟨n1, e1, _, h1⟩ := DataW.trod_int Try.underlying3 t1
    obtain ⟨n2, e2, _, h2'⟩ := DataW.trod_int Try.underlying3 t2
    obtain rfl : u0 = .int .i64 n0 := by simpa using e0
    obtain rfl : u1 = .int .i64 n1 := by simpa using e1
    obtain rfl : u2 = .int .i64 n2 := by simpa using e2
    exact ⟨n0, n1, n2, rfl, i64_of_wf h0, i64_of_wf h1, i64_of_wf h2'⟩
end
end Go.Proofs.Ytddaiihhhajieaa
