/- Three functions of Go's library, as plain functions: strings.Cut, strings.Split, strconv.Itoa. -/
import Derived.Test.YtappdmioncdefaaDoorGood
import Derived.Test.YtappdmioncdefaaDoorWWords
import Derived.Lib.AppendIntMem
namespace Go.Proofs.YtappdmioncdefaaDoor.Q
open Go.RowKit Go.Proofs.YtappdmioncdefaaDoorW.PrintWords

def bytesOfL (l : List UInt8) : ByteArray := ⟨l.toArray⟩
def strings_Cut.f (a0 a1 : ByteArray) : Option (ByteArray × ByteArray × Bool) :=
  if a0.size < 4294967281 then some (bytesOfL (Lib.cut a0.data.toList a1.data.toList).1, bytesOfL (Lib.cut a0.data.toList a1.data.toList).2.1, (Lib.cut a0.data.toList a1.data.toList).2.2) else none
theorem strings_Cut.calls (a0 : ByteArray) (a1 : ByteArray) (r1 : ByteArray) (r2 : ByteArray) (r3 : Bool) (w : World) (hG : GoodW w) (h : strings_Cut.f a0 a1 = some (r1, r2, r3)) :
    Calls Tryd.prog 28 #[.string a0, .string a1] w fun e w' => e = .returned (.tuple #[.string r1, .string r2, .bool r3]) ∧ Drawn0 w w' := by
  unfold strings_Cut.f at h
  split at h
  · rename_i h1
    simp only [Option.some.injEq, Prod.mk.injEq] at h
    obtain ⟨rfl, rfl, rfl⟩ := h
    obtain ⟨⟨m, hm⟩, _⟩ := hG
    exact (Tryd.strings_Cut a0 a1 m w h1 hm).mono fun e w' ⟨he, hw⟩ => ⟨he, ⟨hw⟩⟩
  · cases h

def strconv_Itoa_36.f (a0 : Int) : Option ByteArray := if -9223372036854775808 ≤ a0 ∧ a0 ≤ 9223372036854775807 then some (bytesOfL (Lib.itoa a0)) else none
theorem strconv_Itoa_36.calls (a0 : Int) (r : ByteArray) (w : World) (hG : GoodW w) (h : strconv_Itoa_36.f a0 = some r) :
    Calls Tryd.prog 36 #[.int .i64 a0] w fun e w' => e = .returned (.string r) ∧ Below w.heap.size w w' := by
  unfold strconv_Itoa_36.f at h
  split at h
  · rename_i h1
    obtain rfl := Option.some.inj h
    obtain ⟨_, _, _, ht⟩ := hG
    refine (Tryd.strconv_Itoa a0 h1.1 h1.2 w ht).mono ?_
    rintro e w' ⟨he, k, os, rfl⟩
    exact ⟨he, Lib.below_grow _ w (Nat.le_refl _) k os⟩
  · cases h

def strings_Split.f (a0 a1 : ByteArray) : Option (List ByteArray) := if a0.size < 4294967281 ∧ 1 ≤ a1.size then some (Lib.splitB a1 0 (Lib.countB a0 a1) a0) else none
theorem strings_Split.calls (a0 : ByteArray) (a1 : ByteArray) (r : List ByteArray) (w : World) (hG : GoodW w) (h : strings_Split.f a0 a1 = some r) :
    Calls Tryd.prog 41 #[.string a0, .string a1] w fun e w' => ∃ v0_ : Value, e = .returned (v0_) ∧ Kd.R Kd.string 9 w' w.heap.size (fun _ => True) v0_ r ∧ Below w.heap.size w w' := by
  unfold strings_Split.f at h
  split at h
  · rename_i h1
    obtain rfl := Option.some.inj h
    obtain ⟨⟨m, hm⟩, _⟩ := hG
    have hlen : (Lib.splitB a1 0 (Lib.countB a0 a1) a0).length = Lib.countB a0 a1 + 1 := Lib.splitB_all a1 h1.2 0 _ a0 rfl
    have hle := Lib.countB_le a1 h1.2 a0.size a0 (Nat.le_refl _)
    refine (Tryd.strings_Split a0 a1 m w h1.1 hm h1.2).mono ?_
    rintro e w' ⟨rfl, rfl⟩
    refine ⟨_, rfl, ?_, (Below.refl _ _).alloc (Nat.le_refl _) _⟩
    have ho := OwnRow.lit (e := 9) w w.heap.size (Kd.reps_scalar (enc := Value.string) (Lib.splitB a1 0 (Lib.countB a0 a1) a0)) (Nat.le_refl _) (by rw [hlen]; omega)
    rw [hlen] at ho
    exact ⟨fun _ _ => trivial, ho⟩
  · cases h

/-- what strconv.Atoi returns beside its error -/
def atoiV (l : List UInt8) : Int := match Lib.atoiAll l with
  | .ok v => v
  | .range => Lib.atoiSat l
  | _ => 0
def strconv_Atoi_49.f (a0 : ByteArray) : Option (Int × Option Int) := if a0.size ≤ 281474976710656 then some (atoiV a0.data.toList, none) else none
theorem strconv_Atoi_49.calls (a0 : ByteArray) (r1 : Int) (r2 : Option Int) (w : World) (hG : GoodW w) (h : strconv_Atoi_49.f a0 = some (r1, r2)) :
    Calls Tryd.prog 49 #[.string a0] w fun e w' => ∃ ev : Value, e = .returned (.tuple #[.int .i64 r1, ev]) ∧ Below w.heap.size w w' := by
  unfold strconv_Atoi_49.f at h
  split at h
  · rename_i h1
    simp only [Option.some.injEq, Prod.mk.injEq] at h
    obtain ⟨rfl, rfl⟩ := h
    obtain ⟨_, ⟨t2, p2, h2⟩, ⟨t3, p3, h3⟩, _⟩ := hG
    cases hA : Lib.atoiAll a0.data.toList with
    | ok v =>
      have hv : atoiV a0.data.toList = v := by unfold atoiV; rw [hA]
      rw [hv]
      refine (Tryd.strconv_Atoi_ok a0 (by omega) v hA w).mono ?_
      rintro e w' ⟨he, hw⟩
      refine ⟨_, he, ?_⟩
      rcases hw with rfl | ⟨t, rfl⟩
      · exact Below.refl _ _
      · exact Lib.bytesWorld_below w 5 t
    | range =>
      have hv : atoiV a0.data.toList = Lib.atoiSat a0.data.toList := by unfold atoiV; rw [hA]
      rw [hv]
      refine (Tryd.strconv_Atoi_range a0 h1 hA _ w h3 (.inr ⟨t3, p3, rfl⟩)).mono ?_
      rintro e w' ⟨N, he, _, _, hb⟩
      exact ⟨_, he, hb⟩
    | _ =>
      have hv : atoiV a0.data.toList = 0 := by unfold atoiV; rw [hA]
      rw [hv]
      refine (Tryd.strconv_Atoi_syntax a0 h1 hA _ w h2 (.inr ⟨t2, p2, rfl⟩)).mono ?_
      rintro e w' ⟨N, he, _, _, hb⟩
      exact ⟨_, he, hb⟩
  · cases h
end Go.Proofs.YtappdmioncdefaaDoor.Q
