/- The walk of disk.New: 512 blocks of noughts, an empty map, nothing waits. -/
import Derived.Test.YtddaiihhhajieaaDiskW3
import Derived.Test.YtddaiihhhajieaaShelf
namespace Go.Proofs.Ytddaiihhhajieaa
open Go.RowKit Go.Maps
noncomputable def newC (m : Nat) : Array Value := (Try.zeroCells97.setIfInBounds 514 (Value.int IntKind.i64 (-1))).setIfInBounds 512 (Value.map (some m))
theorem zero97 : Try.zeroCells97 = Array.replicate 512 (.string ⟨#[]⟩) ++ #[.map none, .slice none 0 0, .int .i64 0, .bool false] := by kernel_rfl

/-- nothing at all -/
def noFoot : Foot := fun _ => False
/-- a new disk -/
def NewDisk (w : World) (e : Ending) (w' : World) : Prop := ∃ d F, e = .returned (.pointer (some ⟨d, 0, none⟩)) ∧ IsDisk w' d F Dk.new ∧ Moves w w' noFoot F

/-- The block of a disk in the making: k blocks are laid. -/
structure NC (m k : Nat) (cs : Array Value) : Prop where
  size : cs.size = 516
  done : ∀ j, j < k → cs[j]? = some (.string (zs 64))
  torn : cs[512]? = some (.map (some m))
  wait : cs[513]? = some (.slice none 0 0)
  arm : cs[514]? = some (.int .i64 (-1))
  off : cs[515]? = some (.bool false)
theorem nc_zero (m : Nat) : NC m 0 (newC m) := by
  have hs : Try.zeroCells97.size = 516 := by rw [zero97]; simp
  have e : ∀ i, Try.zeroCells97[512 + i]? = (#[.map none, .slice none 0 0, .int .i64 0, .bool false] : Array Value)[i]? := by
    intro i; rw [zero97, Array.getElem?_append_right (by simp)]; simp
  have e1 := e 1
  have e3 := e 3
  refine ⟨by simp [newC, hs], fun j hj => by omega, ?_, ?_, ?_, ?_⟩
  all_goals unfold newC
  · rw [Array.getElem?_setIfInBounds, if_pos rfl, if_pos (by simp [hs])]
  · rw [Array.getElem?_setIfInBounds, if_neg (by omega), Array.getElem?_setIfInBounds, if_neg (by omega)]; exact e1
  · rw [Array.getElem?_setIfInBounds, if_neg (by omega), Array.getElem?_setIfInBounds, if_pos rfl, if_pos (by rw [hs]; omega)]
  · rw [Array.getElem?_setIfInBounds, if_neg (by omega), Array.getElem?_setIfInBounds, if_neg (by omega)]; exact e3
theorem NC.step {m k : Nat} {cs : Array Value} (h : NC m k cs) (hk : k < 512) : NC m (k + 1) (cs.setIfInBounds k (.string (zs 64))) := by
  have hs := h.size
  refine ⟨by simpa using hs, fun j hj => ?_, ?_, ?_, ?_, ?_⟩
  · rw [Array.getElem?_setIfInBounds]
    by_cases e : k = j
    · subst e; rw [if_pos rfl, if_pos (by omega)]
    · rw [if_neg e]; exact h.done j (by omega)
  · rw [Array.getElem?_setIfInBounds, if_neg (by omega)]; exact h.torn
  · rw [Array.getElem?_setIfInBounds, if_neg (by omega)]; exact h.wait
  · rw [Array.getElem?_setIfInBounds, if_neg (by omega)]; exact h.arm
  · rw [Array.getElem?_setIfInBounds, if_neg (by omega)]; exact h.off

theorem rep_zero : (⟨(Lib.repeatL (⟨#[0]⟩ : ByteArray).data.toList 64).toArray⟩ : ByteArray) = zs 64 := by decide +kernel

theorem rep64 (w : World) : Calls Try.prog 53 #[.string ⟨#[0]⟩, .int .i64 64] w fun e w' => e = .returned (.string (zs 64)) ∧ Below w.heap.size w w' := by
  have h := Try.strings_Repeat ⟨#[0]⟩ 64 w (by omega) (by decide)
  rw [rep_zero] at h
  exact h

set_option maxHeartbeats 1000000 in
theorem new_any (w : World) : Calls Try.prog 18 #[] w (NewDisk w) := by
  have hmm := @run_makeMap Try.prog
  go_enter Try.func18, Try.ntmps18
  go_wp2
  have h0 : Blk ((w.alloc (Obj.map #[] 0)).alloc (Obj.cells (newC w.heap.size) 97)) (w.heap.size + 1) 97 (newC w.heap.size) := by
    have := Blk.new (w.alloc (Obj.map #[] 0)) 97 (newC w.heap.size)
    simpa using this
  have m0 : ((w.alloc (Obj.map #[] 0)).alloc (Obj.cells (newC w.heap.size) 97)).heap[w.heap.size]? = some (Obj.map #[] 0) := heap_alloc2_old w _ _
  have b0 : Below w.heap.size w ((w.alloc (Obj.map #[] 0)).alloc (Obj.cells (newC w.heap.size) 97)) := ((Below.refl _ _).alloc (Nat.le_refl _) _).alloc (by simp) _
  go_loopw [6] (fun i wr => ∃ k : Nat, k ≤ 512 ∧ i = .int .i64 k ∧ (∃ cs, Blk wr (w.heap.size + 1) 97 cs ∧ NC w.heap.size k cs) ∧ wr.heap[w.heap.size]? = some (Obj.map #[] 0) ∧ Below w.heap.size w wr) (fun i _ => 512 - (intOf i).toNat)
  case atStart => exact ⟨0, by omega, rfl, ⟨_, h0, nc_zero _⟩, m0, b0⟩
  case round =>
    obtain ⟨k, hk, rfl, ⟨cs, hb, hc⟩, hm, hbel⟩ := hrel
    clear h0 m0 b0
    by_cases hlt : k < 512
    · have hR := fun W => rep64 W
      have HR := Lib.hid hR
      clear hR
      have b1 : (k : Int) < 512 := by omega
      have b2 : (0 : Int) ≤ (k : Int) := by omega
      have hz := hb.lt
      have HB := Lib.hid hb
      obtain ⟨v, hv⟩ : ∃ v, cs[k]? = some v := ⟨cs[k]'(by rw [hc.size]; omega), Array.getElem?_eq_getElem _⟩
      have HV := Lib.hid hv
      have HM := Lib.hid hm
      clear hb hv hm
      go_wp2
      go_region_with (go_at_call 53; refine (HR.out _).mono ?_; rintro e1 w2 ⟨rfl, hb2⟩; have hq : Blk w2 (w.heap.size + 1) 97 cs := Blk.below (w := wr.drew) HB.out hb2 hz; have q1 := (hq.cell k).trans HV.out; have q2 := hq.frozen k)
      all_goals
        have hb3 : Below w.heap.size w w2 := hbel.trans ((Below.refl _ _).drew.trans (hb2.mono (by have := hbel.size; exact this)))
        have K : Hid ((∃ cs, Blk (w2.setCell { block := w.heap.size + 1, off := k } (Value.string (zs 64))) (w.heap.size + 1) 97 cs ∧ NC w.heap.size (k + 1) cs) ∧
            (w2.setCell { block := w.heap.size + 1, off := k } (Value.string (zs 64))).heap[w.heap.size]? = some (Obj.map #[] 0) ∧ Below w.heap.size w (w2.setCell { block := w.heap.size + 1, off := k } (Value.string (zs 64)))) :=
          ⟨⟨_, hq.set_ k _, hc.step hlt⟩, (Below.heap_setCell _ _ _ _ (by simp)).trans ((hb2.block _ (by have := hz; show w.heap.size < wr.heap.size; omega)).trans HM.out), hb3.setCell (by simp) _⟩
        clear hb2 hq q1 q2 hb3 hc hbel HB HV HM HR
        go_wp2
        go_roundw
        case rel => exact ⟨k + 1, by omega, by go_num, K.out.1, K.out.2.1, K.out.2.2⟩
        case measure => simp [intOf]; omega
    · obtain rfl : k = 512 := by omega
      have K : Hid (NewDisk w (.returned (.pointer (some ⟨w.heap.size + 1, 0, none⟩))) wr) := by
        refine ⟨_, dfoot (w.heap.size + 1) w.heap.size (.slice none 0 0), rfl, ⟨w.heap.size, .slice none 0 0, ⟨⟨cs, hb, hc.size, hc.done, hc.torn, hc.wait, hc.arm, hc.off⟩, ⟨.map [], ⟨#[], 0, hm, ⟨by simp, Go.MapKept.stamped_empty 0, by simp⟩, Nat.le_refl _, rfl⟩, fun k _ => rfl⟩, ⟨rfl, .inl ⟨rfl, rfl⟩⟩, by decide, by decide, by simp [Dk.new]⟩, fun _ => Iff.rfl⟩, ?_⟩
        refine ⟨hbel.os, hbel.tape, hbel.output, hbel.size, fun k hk _ => hbel.block k hk, ?_⟩
        rintro k (rfl | rfl | hk)
        · exact .inr (by omega)
        · exact .inr (Nat.le_refl _)
        · simp [Value.ownBlock] at hk
      clear hb hc hm hbel
      go_wp2
      go_ret
      exact K.out
end Go.Proofs.Ytddaiihhhajieaa
