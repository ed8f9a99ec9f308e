/- The walk of DiskFirst. -/
import Derived.Test.YtddaiihhhajieaaDiskW5
namespace Go.Proofs.Ytddaiihhhajieaa
open Go.RowKit Go.Maps

/-- what a law's walk comes to -/
def Fine (w : World) (e : Ending) (w' : World) : Prop := e = .returned (.bool true) ∧ Below w.heap.size w w'

theorem fine_of {w w' : World} {F : Foot} (h : Moves w w' noFoot F) : Fine w (.returned (.bool true)) w' := ⟨rfl, h.toBelow (Nat.le_refl _) (fun _ hk => hk.elim)⟩

theorem blockk (k : Nat) (w : World) : Calls Try.prog 20 #[.int .u8 (97 + (k : Int) % 26)] w fun e w' => e = .returned (.string (blk (97 + k % 26))) ∧ Below w.heap.size w w' := by
  have h := block_any (97 + (k : Int) % 26) w
  have e : (97 + (k : Int) % 26).toNat = 97 + k % 26 := by omega
  rw [e] at h
  exact h
theorem block0 (w : World) : Calls Try.prog 20 #[.int .u8 0] w fun e w' => e = .returned (.string (zs 64)) ∧ Below w.heap.size w w' := block_any 0 w
theorem firstD_len (k : Nat) : (firstD k).wait.length = k := firsts_length k

set_option maxHeartbeats 2000000 in
theorem first_walk (many keep : Int) (torn : Bool) (w : World) : Calls Try.prog 3 #[.int .i64 many, .int .i64 keep, .bool torn] w (Fine w) := by
  have hA := awake18
  have hN := new_any
  have HA := Lib.hid hA
  have HN := Lib.hid hN
  clear hA hN
  by_cases c1 : many < 0
  · go_enter Try.func3, Try.ntmps3
    go_wp2_with (first | (go_at_call 17; refine (HA.out _).mono ?_; rintro e1 w1 ⟨rfl, hb1⟩) | (go_at_call 18; refine (HN.out _).mono ?_; rintro e2 w2 ⟨d, F, rfl, hd, hm⟩))
    go_ret
    exact fine_of ((Moves.refl w noFoot).below hb1 |>.trans hm)
  by_cases c2 : 50 < many
  · go_enter Try.func3, Try.ntmps3
    go_wp2_with (first | (go_at_call 17; refine (HA.out _).mono ?_; rintro e1 w1 ⟨rfl, hb1⟩) | (go_at_call 18; refine (HN.out _).mono ?_; rintro e2 w2 ⟨d, F, rfl, hd, hm⟩))
    go_ret
    exact fine_of ((Moves.refl w noFoot).below hb1 |>.trans hm)
  obtain ⟨N, rfl⟩ : ∃ N : Nat, many = N := ⟨many.toNat, by omega⟩
  have c3 : N ≤ 50 := by omega
  go_enter Try.func3, Try.ntmps3
  go_wp2_with (first | (go_at_call 17; refine (HA.out _).mono ?_; rintro e1 w1 ⟨rfl, hb1⟩) | (go_at_call 18; refine (HN.out _).mono ?_; rintro e2 w2 ⟨d, F, rfl, hd, hm⟩))
  have hm0 := (Moves.refl w noFoot).below hb1 |>.trans hm
  clear hm hb1 HA HN
  go_loopw [9] (fun i wr => ∃ k : Nat, k ≤ N ∧ i = .int .i64 k ∧ ∃ F, IsDisk wr d F (firstD k) ∧ Moves w wr noFoot F) (fun i _ => N - (intOf i).toNat)
  case atStart => exact ⟨0, Nat.zero_le _, rfl, F, hd, hm0⟩
  case round =>
    obtain ⟨k, hk, rfl, F1, hd1, hm1⟩ := hrel
    clear hd hm0
    by_cases hlt : k < N
    · have h19 := firstD_wr k (by omega)
      have HB := Lib.hid (fun W => blockk k W)
      have HR := Lib.hid h19
      clear h19
      go_wp2_with fail
      refine (HB.out _).mono ?_
      rintro e3 w3 ⟨rfl, hb3⟩
      have h20 := write_any d F1 (firstD k) k (blk (97 + k % 26)) w3 (hd1.below hb3) (by rw [firstD_len]; omega)
      rw [HR.out] at h20
      have H20 := Lib.hid h20
      clear h20 HR HB
      have hm3 := hm1.below hb3
      clear hm1 hb3 hd1
      go_wp2_with fail
      refine H20.out.mono ?_
      rintro e4 w4 ⟨rfl, F4, hd4, hm4⟩
      have hm5 := hm3.trans hm4
      clear hm3 hm4 H20
      go_wp2
      go_roundw
      case rel => exact ⟨k + 1, by omega, by go_num, F4, hd4, hm5⟩
      case measure => simp [intOf]; omega
    · obtain rfl : k = N := by omega
      have H21 := Lib.hid (restart_any d F1 (firstD k) keep torn wr hd1 (by rw [firstD_len]; omega) (by simp [firstD, Dk.new]))
      clear hd1 hlt
      obtain ⟨K, hK⟩ : ∃ K : Int, K = min (max keep 0) k := ⟨_, rfl⟩
      have e1 : (if (0 : Int) > keep then 0 else keep) = max keep 0 := by split <;> omega
      have e2 : (if (k : Int) < max keep 0 then (k : Int) else max keep 0) = K := by split <;> omega
      have E1 := Lib.hid e1
      have E2 := Lib.hid e2
      have HK := Lib.hid hK
      have hrd := fun i (hi : i < k) => firstD_rd k keep torn i hi (by omega)
      rw [← hK] at hrd
      have HRD := Lib.hid hrd
      have hl0 : ((firstD k).restart keep torn).wait.length < 1099511627776 := by simp [Dk.restart]
      have HL0 := Lib.hid hl0
      clear e1 e2 hK hrd hl0
      go_wp2_with (first | (go_at_call 21; refine H21.out.mono ?_; rintro e5 w5 ⟨rfl, F5, hd5, hm5⟩) | ((with_reducible refine wpList_max2 45 _ _ _ _ _ _ keep 0 (max keep 0) ?_ ?_ E1.out ?_); rfl; rfl) | ((with_reducible refine wpList_min2 47 _ _ _ _ _ _ (max keep 0) k K ?_ ?_ E2.out ?_); rfl; rfl))
      have hm6 := hm1.trans hm5
      clear hm1 hm5 H21 E1 E2
      go_loopw [11] (fun i wr => ∃ j : Nat, j ≤ k ∧ i = .int .i64 j ∧ IsDisk wr d F5 ((firstD k).restart keep torn) ∧ Moves w wr noFoot F5) (fun i _ => k - (intOf i).toNat)
      case atStart => exact ⟨0, Nat.zero_le _, rfl, hd5, hm6⟩
      case round =>
        obtain ⟨j, hj, rfl, hd7, hm7⟩ := hrel
        clear hd5 hm6
        by_cases hlt : j < k
        · have h22 := read_any d F5 _ j wr hd7 HL0.out
          rw [HRD.out j hlt] at h22
          by_cases q1 : (j : Int) < K
          · rw [if_pos q1] at h22
            have H22 := Lib.hid h22
            have HB := Lib.hid (fun W => blockk j W)
            have hq : ((blk (97 + j % 26)).toList == (blk (97 + j % 26)).toList) = true := beq_self_eq_true _
            have hq2 : ((blk (97 + j % 26)).toList != (blk (97 + j % 26)).toList) = false := by simp
            clear h22
            go_wp2_with (first | (go_at_call 22; refine H22.out.mono ?_; rintro e8 w8 ⟨rfl, rfl⟩) | (go_at_call 20; refine (HB.out _).mono ?_; rintro e9 w9 ⟨rfl, hb9⟩))
            go_roundw
            case rel => exact ⟨j + 1, by omega, by go_num, hd7.below hb9, hm7.below hb9⟩
            case measure => simp [intOf]; omega
          · rw [if_neg q1] at h22
            by_cases q2 : (j : Int) = K ∧ torn = true
            · rw [if_pos q2] at h22
              obtain ⟨q3, rfl⟩ := q2
              have H22 := Lib.hid h22
              have q4 : ((j : Int) == K) = true := by rw [beq_iff_eq]; exact q3
              clear h22 q3
              go_wp2_with (first | (go_at_call 22; refine H22.out.mono ?_; rintro e8 w8 ⟨rfl, rfl⟩))
              go_roundw
              case rel => exact ⟨j + 1, by omega, by go_num, hd7, hm7⟩
              case measure => simp [intOf]; omega
            · rw [if_neg q2] at h22
              have H22 := Lib.hid h22
              have HB := Lib.hid (fun W => block0 W)
              have hq : ((zs 64).toList == (zs 64).toList) = true := beq_self_eq_true _
              have hq2 : ((zs 64).toList != (zs 64).toList) = false := by simp
              clear h22
              by_cases q3 : (j : Int) = K
              · have q5 : torn = false := by
                  cases torn
                  · rfl
                  · exact absurd ⟨q3, rfl⟩ q2
                subst q5
                have q4 : ((j : Int) == K) = true := by rw [beq_iff_eq]; exact q3
                clear q2 q3
                go_wp2_with (first | (go_at_call 22; refine H22.out.mono ?_; rintro e8 w8 ⟨rfl, rfl⟩) | (go_at_call 20; refine (HB.out _).mono ?_; rintro e9 w9 ⟨rfl, hb9⟩))
                go_roundw
                case rel => exact ⟨j + 1, by omega, by go_num, hd7.below hb9, hm7.below hb9⟩
                case measure => simp [intOf]; omega
              · have q4 : ((j : Int) == K) = false := by rw [beq_eq_false_iff_ne]; exact q3
                clear q2 q3
                go_wp2_with (first | (go_at_call 22; refine H22.out.mono ?_; rintro e8 w8 ⟨rfl, rfl⟩) | (go_at_call 20; refine (HB.out _).mono ?_; rintro e9 w9 ⟨rfl, hb9⟩))
                go_roundw
                case rel => exact ⟨j + 1, by omega, by go_num, hd7.below hb9, hm7.below hb9⟩
                case measure => simp [intOf]; omega
        · have HF := Lib.hid (fine_of hm7)
          clear hm7 hd7
          go_wp2
          go_ret
          exact HF.out
end Go.Proofs.Ytddaiihhhajieaa
