/- The walks of the disk's statements' helpers: block (one letter 64 times) and awake. -/
import Derived.Test.YtddaiihhhajieaaDiskW4
namespace Go.Proofs.Ytddaiihhhajieaa
open Go.RowKit Go.Maps
noncomputable def bz : Array Value := Array.replicate 64 (.int .u8 0)
theorem bz_size : bz.size = 64 := by simp [bz]
theorem run_make64 (w : World) : (Instr.makeSlice 59 (.int .i64 64) (.int .i64 64)).run Try.prog w = .ok (.slice (some ⟨w.heap.size, 0, none⟩) 64 64) (w.alloc (.cells bz 5)) := by kernel_rfl
theorem strOf_rep (c : Int) : strOfNums (List.replicate 64 c) = blk c.toNat := by
  unfold strOfNums blk
  rw [List.map_replicate]

set_option maxHeartbeats 1000000 in
theorem block_any (c : Int) (w : World) : Calls Try.prog 20 #[.int .u8 c] w fun e w' => e = .returned (.string (blk c.toNat)) ∧ Below w.heap.size w w' := by
  have hmk := run_make64
  go_enter Try.func20, Try.ntmps20
  go_wp2
  have hb0 : Blk (w.alloc (Obj.cells bz 5)) w.heap.size 5 bz := Blk.new w 5 bz
  go_loopw [4] (fun i wr => ∃ k : Nat, k ≤ 64 ∧ i = .int .i64 k ∧ (∃ cs, Blk wr w.heap.size 5 cs ∧ cs.size = 64 ∧ ∀ j, j < k → cs[j]? = some (.int .u8 c)) ∧ Below w.heap.size w wr) (fun i _ => 64 - (intOf i).toNat)
  case atStart => exact ⟨0, by omega, rfl, ⟨bz, hb0, bz_size, fun j hj => by omega⟩, (Below.refl _ _).alloc (Nat.le_refl _) _⟩
  case round =>
    obtain ⟨k, hk, rfl, ⟨cs, hb, hcs, hd⟩, hbel⟩ := hrel
    clear hb0 hmk
    by_cases hlt : k < 64
    · have b1 : (k : Int) < 64 := by omega
      have b2 : (0 : Int) ≤ (k : Int) := by omega
      obtain ⟨v, hv⟩ : ∃ v, cs[k]? = some v := ⟨cs[k]'(by omega), Array.getElem?_eq_getElem _⟩
      have q1 := (hb.cell k).trans hv
      have q2 := hb.frozen k
      have K : Hid ((∃ cs', Blk (wr.setCell ⟨w.heap.size, k, none⟩ (.int .u8 c)) w.heap.size 5 cs' ∧ cs'.size = 64 ∧ ∀ j, j < k + 1 → cs'[j]? = some (.int .u8 c)) ∧ Below w.heap.size w (wr.setCell ⟨w.heap.size, k, none⟩ (.int .u8 c))) := by
        refine ⟨⟨_, hb.set_ k _, by simpa using hcs, fun j hj => ?_⟩, hbel.setCell (Nat.le_refl _) _⟩
        rw [Array.getElem?_setIfInBounds]
        by_cases e : k = j
        · subst e; rw [if_pos rfl, if_pos (by omega)]
        · rw [if_neg e]; exact hd j (by omega)
      clear hb hcs hd hbel hv
      go_wp2
      go_roundw
      case rel => exact ⟨k + 1, by omega, by go_num, K.out.1, K.out.2⟩
      case measure => simp [intOf]; omega
    · obtain rfl : k = 64 := by omega
      have hc := run_convert_bytes_arg (P := Try.prog) wr 59 5 Try.underlying59 Try.underlying5 w.heap.size 0 64 64 (List.replicate 64 c) (by simp) (fun i hi => by
        rw [Nat.zero_add, hb.cell, hd i hi, List.getD_eq_getElem?_getD, List.getElem?_replicate, if_pos hi]; rfl) 9 Try.underlying9
      rw [strOf_rep] at hc
      clear hb hcs hd
      go_wp2
      go_ret
      exact ⟨rfl, hbel⟩

/-- what the first statement of each law comes to -/
theorem awake_plain : (Dk.new.wr 3 (blk 97)).1 = 0 ∧ (Dk.new.wr 3 (blk 97)).2.sync.1 = 0 ∧ ((Dk.new.wr 3 (blk 97)).2.sync.2.restart 0 false).rd 3 = (blk 97, 0) := by
  have e1 : Dk.new.wr 3 (blk 97) = (0, { Dk.new with wait := [(3, blk 97)] }) := by
    unfold Dk.wr
    rw [if_neg (by simp [Dk.new]), if_neg (by rw [blk_size]; omega), if_neg (by simp [Dk.new])]
    have e : max ((-1 : Int) - 1) (-1) = -1 := by decide
    simp only [Dk.new, Dk.tick, e]
    rfl
  have e2 : ({ Dk.new with wait := [(3, blk 97)] } : Dk).sync.1 = 0 ∧ ({ Dk.new with wait := [(3, blk 97)] } : Dk).sync.2.wait = [] ∧ ({ Dk.new with wait := [(3, blk 97)] } : Dk).sync.2.last 3 = blk 97 ∧ ({ Dk.new with wait := [(3, blk 97)] } : Dk).sync.2.torn 3 = false := by
    rw [sync_fine _ rfl rfl]
    exact ⟨rfl, rfl, rfl, rfl⟩
  rw [e1]
  refine ⟨rfl, e2.1, ?_⟩
  have := restart_rd ({ Dk.new with wait := [(3, blk 97)] } : Dk).sync.2 0 false 3 (by omega)
  rw [e2.2.1, e2.2.2.1, e2.2.2.2] at this
  simpa [lookW] using this

theorem block97 (w : World) : Calls Try.prog 20 #[.int .u8 97] w fun e w' => e = .returned (.string (blk 97)) ∧ Below w.heap.size w w' := block_any 97 w

set_option maxHeartbeats 1000000 in
theorem awake18 (w : World) : Calls Try.prog 17 #[] w fun e w' => e = .returned (.bool true) ∧ Below w.heap.size w w' := by
  obtain ⟨p1, p2, p3⟩ := awake_plain
  have P1 := Lib.hid p1
  have P2 := Lib.hid p2
  have P3 := Lib.hid p3
  have hl : (Dk.new.wr 3 (blk 97)).2.wait.length < 1099511627776 ∧ (Dk.new.wr 3 (blk 97)).2.sync.2.wait.length < 1099511627776 ∧ (Dk.new.wr 3 (blk 97)).2.sync.2.turns < 1099511627776 ∧ ((Dk.new.wr 3 (blk 97)).2.sync.2.restart 0 false).wait.length < 1099511627776 := by
    refine ⟨?_, ?_, ?_, ?_⟩ <;> decide +kernel
  have HL := Lib.hid hl
  clear p1 p2 p3 hl
  have hq : ((blk 97).toList == (blk 97).toList) = true := beq_self_eq_true _
  go_enter Try.func17, Try.ntmps17
  go_wp2_with (go_at_call 18; refine (new_any _).mono ?_; rintro e1 w1 ⟨d, F, rfl, hd, hm⟩)
  refine (block97 _).mono ?_
  rintro e2 w2 ⟨rfl, hb2⟩
  have h19 := write_any d F Dk.new 3 (blk 97) w2 (hd.below hb2) (by decide)
  rw [P1.out] at h19
  have m2 := hm.below hb2
  clear hd hm hb2
  have H19 := Lib.hid h19
  clear h19
  go_wp2_with fail
  refine H19.out.mono ?_
  rintro e3 w3 ⟨rfl, F3, hd3, hm3⟩
  have h24 := sync_any d F3 _ w3 hd3 HL.out.1
  rw [P2.out] at h24
  have m3 := m2.trans hm3
  clear hd3 hm3 m2 H19
  have H24 := Lib.hid h24
  clear h24
  go_wp2_with fail
  refine H24.out.mono ?_
  rintro e4 w4 ⟨rfl, F4, hd4, hm4⟩
  have H21 := Lib.hid (restart_any d F4 _ 0 false w4 hd4 HL.out.2.1 HL.out.2.2.1)
  have m4 := m3.trans hm4
  clear hd4 hm4 m3 H24
  go_wp2_with fail
  refine H21.out.mono ?_
  rintro e5 w5 ⟨rfl, F5, hd5, hm5⟩
  have h22 := read_any d F5 _ 3 w5 hd5 HL.out.2.2.2
  rw [P3.out] at h22
  have m5 := m4.trans hm5
  clear hd5 hm5 m4 H21
  have H22 := Lib.hid h22
  clear h22
  go_wp2_with fail
  refine H22.out.mono ?_
  rintro e6 w6 ⟨rfl, rfl⟩
  go_wp2_with (go_at_call 20; refine (block97 _).mono ?_; rintro e7 w7 ⟨rfl, hb7⟩)
  go_ret
  exact ⟨rfl, (m5.below hb7).toBelow (Nat.le_refl _) (fun k hk => hk.elim)⟩
end Go.Proofs.Ytddaiihhhajieaa
