/- The walks of the disk's small methods: goes, Off, Open, Arm, done. -/
import Derived.Test.YtddaiihhhajieaaDiskMem
import Derived.ChangeAlike
import Derived.Deep.RegionLaw
namespace Go.Proofs.Ytddaiihhhajieaa
open Go.RowKit Go.Maps

def dptr (d : Nat) : Value := .pointer (some ⟨d, 0, none⟩)

set_option maxHeartbeats 400000 in
theorem goes_at (d m : Nat) (wv : Value) (D : Dk) (w : World) (h : DiskAt w d m wv D) :
    Calls Try.prog 54 #[.pointer (some ⟨d, 0, none⟩)] w fun e w' => e = .returned (.bool D.tick.off) ∧ DiskAt w' d m wv D.tick ∧ Moves w w' (fun k => k = d) (fun k => k = d) := by
  have h1 := h.fine.1
  have h2 := h.fine.2.1
  have c3 := h.c_arm
  have c4 := h.c_off
  have f3 := h.fz 514
  have f4 := h.fz 515
  have key : ∀ x : Int, x = max (D.arm - 1) (-1) → ∀ w', w' = (if D.arm = 0 then (w.setCell ⟨d, 515, none⟩ (.bool true)).setCell ⟨d, 514, none⟩ (.int .i64 x) else w.setCell ⟨d, 514, none⟩ (.int .i64 x)) →
      DiskAt w' d m wv D.tick ∧ Moves w w' (fun k => k = d) (fun k => k = d) := by
    rintro x hx w' rfl
    have hx1 : -1 ≤ x := by omega
    have hx2 : x ≤ 9223372036854775807 := by omega
    by_cases h0 : D.arm = 0
    · rw [if_pos h0]
      refine ⟨?_, ((Moves.refl w _).cell 515 _).cell 514 _⟩
      have := (h.set_off true).set_arm x hx1 hx2
      simpa [Dk.tick, h0, hx] using this
    · rw [if_neg h0]
      refine ⟨?_, (Moves.refl w _).cell 514 _⟩
      have := h.set_arm x hx1 hx2
      have e : (D.arm == 0) = false := by rw [beq_eq_false_iff_ne]; exact h0
      simpa [Dk.tick, e, hx] using this
  have K := Lib.hid key
  clear key h
  by_cases h0 : D.arm = 0
  · have e : (D.arm == 0) = true := by rw [beq_iff_eq]; exact h0
    have eo : D.tick.off = true := by simp [Dk.tick, e]
    have E := Lib.hid h0
    have EO := Lib.hid eo
    clear h0 eo
    go_enter Try.func54, Try.ntmps54
    go_wp2
    all_goals (go_ret; refine ⟨by rw [EO.out]; rfl, K.out _ ?_ _ (if_pos E.out).symm⟩; omega)
  · have e : (D.arm == 0) = false := by rw [beq_eq_false_iff_ne]; exact h0
    have eo : D.tick.off = D.off := by simp [Dk.tick, e]
    have E := Lib.hid h0
    have EO := Lib.hid eo
    clear h0 eo
    go_enter Try.func54, Try.ntmps54
    go_wp2
    all_goals (go_ret; refine ⟨by rw [EO.out]; rfl, K.out _ ?_ _ (if_neg E.out).symm⟩; omega)

theorem off_at (d m : Nat) (wv : Value) (D : Dk) (w : World) (h : DiskAt w d m wv D) :
    Calls Try.prog 25 #[.pointer (some ⟨d, 0, none⟩)] w fun e w' => e = .returned (.bool D.off) ∧ w = w' := by
  have c4 := h.c_off
  go_enter Try.func25, Try.ntmps25
  go_wp2
  go_ret
  exact ⟨rfl, rfl⟩

theorem open_at (d m : Nat) (wv : Value) (D : Dk) (w : World) (h : DiskAt w d m wv D) :
    Calls Try.prog 23 #[.pointer (some ⟨d, 0, none⟩)] w fun e w' => e = .returned (.int .i64 (D.wait.length : Int)) ∧ w = w' := by
  obtain ⟨A, c, rfl, hc⟩ := own_form h.own
  have c4 := h.c_wait
  go_enter Try.func23, Try.ntmps23
  go_wp2
  go_ret
  exact ⟨rfl, rfl⟩

set_option maxHeartbeats 400000 in
theorem arm_at (d m : Nat) (wv : Value) (D : Dk) (n : Int) (hn : n ≤ 9223372036854775807) (w : World) (h : DiskAt w d m wv D) :
    Calls Try.prog 26 #[.pointer (some ⟨d, 0, none⟩), .int .i64 n] w fun e w' => e = .returned (.tuple #[]) ∧ DiskAt w' d m wv (D.armed n) ∧ Moves w w' (fun k => k = d) (fun k => k = d) := by
  have c3 := h.c_arm
  have f3 := h.fz 514
  have key : ∀ x : Int, x = max n (-1) → DiskAt (w.setCell ⟨d, 514, none⟩ (.int .i64 x)) d m wv (D.armed n) ∧ Moves w (w.setCell ⟨d, 514, none⟩ (.int .i64 x)) (fun k => k = d) (fun k => k = d) := by
    intro x hx
    have := h.set_arm x (by omega) (by omega)
    exact ⟨by simpa [Dk.armed, hx] using this, (Moves.refl w _).cell 514 _⟩
  have K := Lib.hid key
  clear key h
  go_enter Try.func26, Try.ntmps26
  go_wp2
  all_goals (go_end0; refine ⟨rfl, K.out _ ?_⟩; omega)

/-- both of the struct's blocks -/
def dm (d m : Nat) : Foot := fun k => k = d ∨ k = m

set_option maxHeartbeats 1000000 in
theorem done_at (d m : Nat) (wv : Value) (D : Dk) (n : Nat) (s : ByteArray) (hn : n < 512) (w : World) (h : DiskAt w d m wv D) :
    Calls Try.prog 55 #[.pointer (some ⟨d, 0, none⟩), .agg #[.int .i64 (n : Int), .string s]] w fun e w' => e = .returned (.tuple #[]) ∧ DiskAt w' d m wv (D.done (n, s)) ∧ Moves w w' (dm d m) (dm d m) := by
  have hlt := h.lt_d
  have cl := h.c_last n hn
  have ct := h.c_torn
  have f1 := h.fz n
  have b0 : (0 : Int) ≤ (n : Int) := by omega
  have b1 : (n : Int) < 512 := by omega
  have hk3 := key3 n hn
  have h1 : DiskAt ((w.setCell ⟨d, n, none⟩ (.string s)).alloc (Obj.cells #[Value.int IntKind.i64 ↑n, Value.string s] 100)).drew d m wv { D with last := fun k => if k = n then s else D.last k } :=
    ((h.set_last n hn s).alloc _).drew
  have hm1 : Moves w ((w.setCell ⟨d, n, none⟩ (.string s)).alloc (Obj.cells #[Value.int IntKind.i64 ↑n, Value.string s] 100)).drew (dm d m) (dm d m) :=
    (((Moves.refl w _).setCell (p := ⟨d, n, none⟩) (.inl (.inl rfl)) _).alloc _).drew
  obtain ⟨T, ho, ht⟩ := h1.map
  have K : Hid (∀ w1, w1.ownsMap Try.prog 3 (plainElem Try.prog 4) m D.turns (T.del (.int .i64 (n : Int))) → ((w.setCell ⟨d, n, none⟩ (.string s)).alloc (Obj.cells #[Value.int IntKind.i64 ↑n, Value.string s] 100)).drew.drew.mapTurned w1 m →
      DiskAt w1 d m wv (D.done (n, s)) ∧ Moves w w1 (dm d m) (dm d m)) := fun w1 ho1 ht1 => ⟨h1.drew.turned ht1 _ _ _ ho1 (atKey_struck ht n), hm1.drew.turned ht1 (.inl (.inr rfl))⟩
  clear h h1 hm1 ht
  go_enter Try.func55, Try.ntmps55
  go_wp2
  go_region
  go_wp2
  go_region_law (refine step_delete rfl (.tmp 15) (.tmp 17) 93 3 rfl 4 law3 Try.underlying93 (plainElem Try.prog 4) m _ T (by simp [Act.eval]) ho _ _ (by simp [Act.eval]) hk3 ?_; intro w1 ho1 ht1)
  all_goals (go_end0; exact ⟨rfl, K.out _ ho1 ht1⟩)

end Go.Proofs.Ytddaiihhhajieaa
