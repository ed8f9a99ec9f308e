/- The walk of DiskArmed. -/
import Derived.Test.YtddaiihhhajieaaDiskFresh
namespace Go.Proofs.Ytddaiihhhajieaa
open Go.RowKit Go.Maps

theorem armD_len (n k : Nat) (h : n ≤ 50) : (armD n k).wait.length < 1099511627776 := by simp [armD, armW]; omega
theorem block120 (w : World) : Calls Try.prog 20 #[.int .u8 120] w fun e w' => e = .returned (.string (blk 120)) ∧ Below w.heap.size w w' := block_any 120 w
theorem armD_torn (n k i : Nat) : (armD n k).torn i = false := rfl
theorem arm_end (n m : Nat) (D : Dk) (hD : D = (armD n m).restart m false) : (D.rd 0).2 = 0 ∧ D.off = false ∧ D.sync.1 = 0 ∧ D.wait.length < 1099511627776 := by
  have ho : D.off = false := by rw [hD]; rfl
  have ha : D.arm = -1 := by rw [hD]; rfl
  have ht : D.torn 0 = false := by rw [hD]; exact restart_fine _ _ (armD_torn n m) 0
  refine ⟨rd_fine D 0 (by omega) ho ht, ho, by rw [sync_fine D ho ha], ?_⟩
  rw [hD]; show 0 < _; omega

set_option maxHeartbeats 4000000 in
set_option maxRecDepth 100000 in
theorem armed_walk (n many : Int) (w : World) : Calls Try.prog 6 #[.int .i64 n, .int .i64 many] w (Fine w) := by
  have HA := Lib.hid awake18
  have HN := Lib.hid new_any
  by_cases c1 : n < 0
  · go_enter Try.func6, Try.ntmps6
    go_wp2_with (first | (go_at_call 17; refine (HA.out _).mono ?_; rintro e1 w1 ⟨rfl, hb1⟩) | (go_at_call 18; refine (HN.out _).mono ?_; rintro e2 w2 ⟨d, F, rfl, hd, hm⟩))
    go_ret
    exact fine_of ((Moves.refl w noFoot).below hb1 |>.trans hm)
  have c1' : decide (n < 0) = false := by simpa using c1
  by_cases c2 : 50 < n
  · go_enter Try.func6, Try.ntmps6
    go_wp2_with (first | (go_at_call 17; refine (HA.out _).mono ?_; rintro e1 w1 ⟨rfl, hb1⟩) | (go_at_call 18; refine (HN.out _).mono ?_; rintro e2 w2 ⟨d, F, rfl, hd, hm⟩))
    go_ret
    exact fine_of ((Moves.refl w noFoot).below hb1 |>.trans hm)
  have c2' : decide (50 < n) = false := by simpa using c2
  by_cases c3 : many < 0
  · go_enter Try.func6, Try.ntmps6
    go_wp2_with (first | (go_at_call 17; refine (HA.out _).mono ?_; rintro e1 w1 ⟨rfl, hb1⟩) | (go_at_call 18; refine (HN.out _).mono ?_; rintro e2 w2 ⟨d, F, rfl, hd, hm⟩))
    go_ret
    exact fine_of ((Moves.refl w noFoot).below hb1 |>.trans hm)
  have c3' : decide (many < 0) = false := by simpa using c3
  by_cases c4 : 60 < many
  · go_enter Try.func6, Try.ntmps6
    go_wp2_with (first | (go_at_call 17; refine (HA.out _).mono ?_; rintro e1 w1 ⟨rfl, hb1⟩) | (go_at_call 18; refine (HN.out _).mono ?_; rintro e2 w2 ⟨d, F, rfl, hd, hm⟩))
    go_ret
    exact fine_of ((Moves.refl w noFoot).below hb1 |>.trans hm)
  have c4' : decide (60 < many) = false := by simpa using c4
  obtain ⟨N, rfl⟩ : ∃ N : Nat, n = N := ⟨n.toNat, by omega⟩
  obtain ⟨M, rfl⟩ : ∃ M : Nat, many = M := ⟨many.toNat, by omega⟩
  have d1 : N ≤ 50 := by omega
  have d2 : M ≤ 60 := by omega
  have HB := Lib.hid block120
  clear c1 c2 c3 c4
  go_enter Try.func6, Try.ntmps6
  go_wp2_with (first | (go_at_call 17; refine (HA.out _).mono ?_; rintro e1 w1 ⟨rfl, hb1⟩) | (go_at_call 18; refine (HN.out _).mono ?_; rintro e2 w2 ⟨d, F, rfl, hd, hm⟩))
  have h26 := arm_any d F Dk.new N (by omega) w2 hd
  rw [armD_zero] at h26
  have H26 := Lib.hid h26
  have hm2 := (Moves.refl w noFoot).below hb1 |>.trans hm
  clear h26 hd hm hb1
  refine H26.out.mono ?_
  rintro e3 w3 ⟨rfl, F3, hd3, hm3⟩
  have hm4 := hm2.trans hm3
  clear hm2 hm3 HA HN H26
  go_wp2_with fail
  go_loopw [7] (fun i wr => ∃ k : Nat, k ≤ M ∧ i = .int .i64 k ∧ ∃ F, IsDisk wr d F (armD N k) ∧ Moves w wr noFoot F) (fun i _ => M - (intOf i).toNat)
  case atStart => exact ⟨0, Nat.zero_le _, rfl, F3, hd3, hm4⟩
  case round =>
    obtain ⟨k, hk, rfl, F1, hd1, hm1⟩ := hrel
    clear hd3 hm4
    by_cases hlt : k < M
    · have HR := Lib.hid (armD_wr N k (by omega))
      go_wp2_with fail
      refine (HB.out _).mono ?_
      rintro e4 w4 ⟨rfl, hb4⟩
      have h19 := write_any d F1 (armD N k) k (blk 120) w4 (hd1.below hb4) (armD_len _ _ d1)
      rw [HR.out] at h19
      have hm5 := hm1.below hb4
      clear hm1 hd1 hb4 HR
      by_cases hkN : k < N
      · rw [if_pos hkN] at h19
        have H19 := Lib.hid h19
        clear h19
        go_wp2_with fail
        refine H19.out.mono ?_
        rintro e5 w5 ⟨rfl, F5, hd5, hm6⟩
        have hm7 := hm5.trans hm6
        clear hm5 hm6 H19
        go_wp2
        go_roundw
        case rel => exact ⟨k + 1, by omega, by go_num, F5, hd5, hm7⟩
        case measure => simp [intOf]; omega
      · rw [if_neg hkN] at h19
        have hkN' : decide ((k : Int) < (N : Int)) = false := by simp; omega
        have H19 := Lib.hid h19
        clear h19
        go_wp2_with fail
        refine H19.out.mono ?_
        rintro e5 w5 ⟨rfl, F5, hd5, hm6⟩
        have hm7 := hm5.trans hm6
        clear hm5 hm6 H19
        go_wp2
        go_roundw
        case rel => exact ⟨k + 1, by omega, by go_num, F5, hd5, hm7⟩
        case measure => simp [intOf]; omega
    · obtain rfl : k = M := by omega
      obtain ⟨a1, a2, a3, a4⟩ := arm_end N k _ rfl
      have A1 := Lib.hid a1
      have A2 := Lib.hid a2
      have A3 := Lib.hid a3
      have A4 := Lib.hid a4
      have ho := off_any d F1 _ wr hd1
      have hr := read_any d F1 _ 0 wr hd1 (armD_len _ _ d1)
      have H21 := Lib.hid (restart_any d F1 _ k false wr hd1 (armD_len _ _ d1) (by show 0 < _; omega))
      clear a1 a2 a3 a4 hlt
      have eo : (armD N k).off = decide (N < k) := rfl
      rw [eo] at ho
      by_cases hNk : N < k
      · have er : (armD N k).rd 0 = (ByteArray.empty, 21) := rd_dead _ _ (by rw [eo]; simpa using hNk)
        rw [er] at hr
        have ed : decide (N < k) = true := by simpa using hNk
        rw [ed] at ho
        have hNk' : (N : Int) < (k : Int) := by omega
        have HO := Lib.hid ho
        have HR := Lib.hid hr
        clear ho hr er ed eo hd1 hNk
        go_wp2_with (first | (go_at_call 25; refine HO.out.mono ?_; rintro e4 w4 ⟨rfl, rfl⟩))
        refine HR.out.mono ?_
        rintro e5 w5 ⟨rfl, rfl⟩
        go_wp2_with fail
        refine H21.out.mono ?_
        rintro e6 w6 ⟨rfl, F6, hd6, hm6⟩
        have hr2 := read_any d F6 _ 0 w6 hd6 A4.out
        have ho2 := off_any d F6 _ w6 hd6
        have hs2 := sync_any d F6 _ w6 hd6 A4.out
        rw [A1.out] at hr2
        rw [A2.out] at ho2
        rw [A3.out] at hs2
        have HR2 := Lib.hid hr2
        have HO2 := Lib.hid ho2
        have HS2 := Lib.hid hs2
        have HM := Lib.hid (hm1.trans hm6)
        clear hr2 ho2 hs2 hm1 hm6 hd6 H21 HR HO
        go_wp2_with (first | (go_at_call 25; refine HO2.out.mono ?_; rintro e7 w7 ⟨rfl, rfl⟩) | (go_at_call 22; refine HR2.out.mono ?_; rintro e8 w8 ⟨rfl, rfl⟩) | (go_at_call 24; refine HS2.out.mono ?_; rintro e9 w9 ⟨rfl, F9, hd9, hm9⟩))
        go_ret
        exact fine_of (HM.out.trans hm9)
      · have er : ((armD N k).rd 0).2 = 0 := rd_fine _ 0 (by omega) (by rw [eo]; simpa using hNk) rfl
        have ed : decide (N < k) = false := by simpa using hNk
        rw [er] at hr
        rw [ed] at ho
        have hNk' : ¬ N < k := hNk
        have HO := Lib.hid ho
        have HR := Lib.hid hr
        clear ho hr er ed eo hd1 hNk
        go_wp2_with (first | (go_at_call 25; refine HO.out.mono ?_; rintro e4 w4 ⟨rfl, rfl⟩))
        refine HR.out.mono ?_
        rintro e5 w5 ⟨rfl, rfl⟩
        go_wp2_with fail
        refine H21.out.mono ?_
        rintro e6 w6 ⟨rfl, F6, hd6, hm6⟩
        have hr2 := read_any d F6 _ 0 w6 hd6 A4.out
        have ho2 := off_any d F6 _ w6 hd6
        have hs2 := sync_any d F6 _ w6 hd6 A4.out
        rw [A1.out] at hr2
        rw [A2.out] at ho2
        rw [A3.out] at hs2
        have HR2 := Lib.hid hr2
        have HO2 := Lib.hid ho2
        have HS2 := Lib.hid hs2
        have HM := Lib.hid (hm1.trans hm6)
        clear hr2 ho2 hs2 hm1 hm6 hd6 H21 HR HO
        go_wp2_with (first | (go_at_call 25; refine HO2.out.mono ?_; rintro e7 w7 ⟨rfl, rfl⟩) | (go_at_call 22; refine HR2.out.mono ?_; rintro e8 w8 ⟨rfl, rfl⟩) | (go_at_call 24; refine HS2.out.mono ?_; rintro e9 w9 ⟨rfl, F9, hd9, hm9⟩))
        go_ret
        exact fine_of (HM.out.trans hm9)
end Go.Proofs.Ytddaiihhhajieaa
