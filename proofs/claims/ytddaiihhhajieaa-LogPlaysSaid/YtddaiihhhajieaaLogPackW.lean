/- The walk of log.pack. -/
import Derived.Test.YtddaiihhhajieaaBuilder
import Derived.Test.YtddaiihhhajieaaArgs
namespace Go.Proofs.Ytddaiihhhajieaa
open Go.RowKit Go.Maps

def recB (r : ByteArray) : ByteArray := be r.size 2 ++ r
def packTo (l : List ByteArray) : ByteArray := l.foldl (fun p r => p ++ recB r) ⟨#[]⟩
/-- may they be packed: none is too long -/
def short (l : List ByteArray) : Bool := l.all fun r => decide (r.size ≤ 65535)
def packV (l : List ByteArray) : Value := .tuple #[.string (if short l = true then packTo l else ⟨#[]⟩), .bool (short l)]
theorem packTo_succ (l : List ByteArray) (k : Nat) (h : k < l.length) : packTo (l.take (k + 1)) = packTo (l.take k) ++ recB l[k] := by
  unfold packTo
  rw [List.take_succ_eq_append_getElem h, List.foldl_append]
  rfl
theorem recB_size (r : ByteArray) : (recB r).size = 2 + r.size := by unfold recB; simp [be_size]
theorem packTo_le (l : List ByteArray) (k : Nat) (hk : k ≤ l.length) (h : ∀ i (hi : i < l.length), i < k → (l[i]'hi).size ≤ 65535) : (packTo (l.take k)).size ≤ k * 65537 := by
  induction k with
  | zero => exact Nat.le_of_eq rfl
  | succ k ih =>
    have h1 := ih (by omega) (fun i hi hik => h i hi (by omega))
    have h2 := h k (by omega) (by omega)
    rw [packTo_succ l k (by omega)]
    simp [recB_size]
    omega
theorem strCells_bytes (s : ByteArray) : Lib.strCells s = Lib.byteCells s.data.toList := rfl
theorem strCells_append (s t : ByteArray) : Lib.strCells s ++ Lib.strCells t = Lib.strCells (s ++ t) := by
  unfold Lib.strCells
  rw [ByteArray.data_append, Array.toList_append, List.map_append]

theorem builder_below {T e : TypeId} {B b : Nat} {bs : List Value} {w w' : World} (h : Lib.IsBuilder T e B b bs w) (hb : Below w.heap.size w w') : Lib.IsBuilder T e B b bs w' := by
  have key : ∀ p, Lib.BuilderAt T e B b p bs w → Lib.BuilderAt T e B b p bs w' := by
    rintro p ⟨hB, v, hbk, hown, hne⟩
    exact ⟨hB, v, (hb.block b (Array.getElem?_eq_some_iff.1 hbk).1).trans hbk, own_stay hown (fun g hg => hb.block g ((hown.lt g hg).2)), hne⟩
  exact h.imp (key _) (key _)

set_option maxHeartbeats 2000000 in
set_option maxRecDepth 20000 in
theorem pack_any {w : World} (v : Value) (l : List ByteArray) (hv : IsStrs w v l) (hlen : l.length ≤ 1000000000) : Calls Try.prog 60 #[v] w fun e w' => e = .returned (packV l) ∧ Below w.heap.size w w' := by
  obtain ⟨A, c, rfl, hc, hm, hx⟩ := hv
  have HX := Lib.hid hx
  have H85 := Lib.hid bytes_int
  have H79 := Lib.hid (fun (bs : List Value) (s : ByteArray) W h1 h2 h3 => writeString_any w.heap.size w.heap.size bs s W h1 h2 h3)
  obtain ⟨N, hN⟩ : ∃ N, N = l.length := ⟨_, rfl⟩
  rw [← hN] at hc ⊢
  have HN := Lib.hid hN
  have g0 : N ≤ 1000000000 := by omega
  clear hx hN hlen
  go_enter Try.func60, Try.ntmps60
  go_wp2
  have hB0 : Lib.IsBuilder 130 5 w.heap.size w.heap.size (Lib.strCells (packTo [])) (w.alloc (.cells #[.pointer none, .slice none 0 0] 130)) :=
    .inl ⟨Nat.le_refl _, .slice none 0 0, heap_alloc_new w _, ⟨rfl, .inl ⟨rfl, rfl⟩⟩, by simp [Value.ownBlock]⟩
  have hb0 : Below w.heap.size w (w.alloc (.cells #[.pointer none, .slice none 0 0] 130)) := (Below.refl _ _).alloc (Nat.le_refl _) _
  go_loopw [9] (fun i wr => ∃ k : Nat, k ≤ N ∧ i = .int .i64 k ∧ Lib.IsBuilder 130 5 w.heap.size w.heap.size (Lib.strCells (packTo (l.take k))) wr ∧ Below w.heap.size w wr ∧ ∀ i (hi : i < l.length), i < k → (l[i]'hi).size ≤ 65535) (fun i _ => N - (intOf i).toNat)
  case atStart => exact ⟨0, Nat.zero_le _, rfl, hB0, hb0, fun i hi h => by omega⟩
  case round =>
    obtain ⟨k, hk, rfl, hB, hbel, hsh⟩ := hrel
    clear hB0 hb0
    by_cases hlt : k < N
    · obtain ⟨b, off, rfl, hx⟩ := HX.out k (by rw [← HN.out]; exact hlt)
      have hx' := EStr.stays _ _ _ _ _ hx hbel
      obtain ⟨r, hr⟩ : ∃ r, r = l[k]'(by rw [← HN.out]; exact hlt) := ⟨_, rfl⟩
      rw [← hr] at hx'
      have x0 := hx'.1
      rw [Nat.mul_one] at x0
      have x1 := hx'.2
      have HR := Lib.hid hr
      have HB := Lib.hid hB
      have HBEL := Lib.hid hbel
      have HSH := Lib.hid hsh
      clear hx hx' hr hB hbel hsh
      by_cases hbig : 65535 < r.size
      · have e : short l = false := by
          unfold short
          rw [List.all_eq_false]
          exact ⟨r, by rw [HR.out]; exact List.getElem_mem _, by simp; omega⟩
        have E := Lib.hid e
        clear e
        have hbig' : (65535 : Int) < r.size := by omega
        go_wp2
        go_ret2
        exact ⟨by unfold packV; rw [E.out]; rfl, HBEL.out⟩
      · have hbig' : ¬ (65535 : Int) < r.size := by omega
        have hz := be_size
        have hcat : ¬ 9223372036854775807 < 2 + r.size := by omega
        go_wp2_with (go_at_call 85; refine (H85.out _ _ (by omega) (by omega) (by omega) (by omega) _).mono ?_; rintro e1 w1 ⟨rfl, b1⟩)
        have hB1 := builder_below HB.out b1
        have hlen79 : (Lib.strCells (packTo (l.take k))).length + (be r.size 2 ++ r).size ≤ 140737488355328 := by
          rw [Lib.strCells_length]
          have := packTo_le l k (by rw [← HN.out]; exact hk) HSH.out
          simp [hz]
          omega
        have hb1 := HBEL.out.trans (b1.mono HBEL.out.size)
        have H := Lib.hid (H79.out _ _ _ hB1 hlen79 hb1.size)
        have HB1 := Lib.hid hb1
        clear hB1 hlen79 hb1 b1 hz hcat
        go_wp2_with (go_at_call 79; refine H.out.mono ?_; rintro e2 w2 ⟨rfl, hB2, hb2⟩)
        go_roundw
        case rel =>
          refine ⟨k + 1, by omega, by go_num, ?_, HB1.out.trans hb2, fun i hi hik => ?_⟩
          · rw [packTo_succ l k (by rw [← HN.out]; exact hlt), ← strCells_append, ← HR.out]
            exact .inr hB2
          · by_cases e : i = k
            · subst e; rw [← HR.out]; omega
            · exact HSH.out i hi (by omega)
        case measure => simp [intOf]; omega
    · obtain rfl : k = N := by omega
      have e : short l = true := by
        unfold short
        rw [List.all_eq_true]
        intro r hr
        obtain ⟨i, hi, rfl⟩ := List.getElem_of_mem hr
        have := hsh i hi (by rw [HN.out]; exact hi)
        simpa using this
      have E := Lib.hid e
      have et : l.take k = l := List.take_of_length_le (by rw [← HN.out]; exact Nat.le_refl _)
      rw [et, strCells_bytes] at hB
      have H81 := Lib.hid (Try.Builder_String_any w.heap.size w.heap.size _ wr hB hbel.size)
      have HBEL := Lib.hid hbel
      clear hB hbel hsh e et
      go_wp2_with (go_at_call 81; refine H81.out.mono ?_; rintro e2 w2 ⟨rfl, hb2⟩)
      go_ret2
      exact ⟨by unfold packV; rw [E.out]; rfl, HBEL.out.trans hb2⟩
end Go.Proofs.Ytddaiihhhajieaa
