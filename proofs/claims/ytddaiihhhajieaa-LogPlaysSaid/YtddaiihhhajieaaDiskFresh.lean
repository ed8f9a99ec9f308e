/- The walks of DiskFresh and DiskArmed. -/
import Derived.Test.YtddaiihhhajieaaDiskFirst
namespace Go.Proofs.Ytddaiihhhajieaa
open Go.RowKit Go.Maps

theorem off_any (d : Nat) (F : Foot) (D : Dk) (w : World) (h : IsDisk w d F D) :
    Calls Try.prog 25 #[.pointer (some ⟨d, 0, none⟩)] w fun e w' => e = .returned (.bool D.off) ∧ w = w' := by
  obtain ⟨m, wv, hd, _⟩ := h
  exact off_at d m wv D w hd
theorem open_any (d : Nat) (F : Foot) (D : Dk) (w : World) (h : IsDisk w d F D) :
    Calls Try.prog 23 #[.pointer (some ⟨d, 0, none⟩)] w fun e w' => e = .returned (.int .i64 (D.wait.length : Int)) ∧ w = w' := by
  obtain ⟨m, wv, hd, _⟩ := h
  exact open_at d m wv D w hd
theorem arm_any (d : Nat) (F : Foot) (D : Dk) (n : Int) (hn : n ≤ 9223372036854775807) (w : World) (h : IsDisk w d F D) :
    Calls Try.prog 26 #[.pointer (some ⟨d, 0, none⟩), .int .i64 n] w fun e w' => e = .returned (.tuple #[]) ∧ Left w F d (D.armed n) w' := by
  obtain ⟨m, wv, hd, hF⟩ := h
  exact (arm_at d m wv D n hn w hd).mono fun e w' ⟨he, h1, h2⟩ => ⟨he, left_of hF h1 (moves_d h2)⟩

def freshD (m : Nat) (s : ByteArray) : Dk := { Dk.new with wait := [(m, s)] }
theorem new_len : Dk.new.wait.length < 1099511627776 := by show 0 < _; omega
theorem freshD_len (m : Nat) (s : ByteArray) : (freshD m s).wait.length < 1099511627776 := by show 1 < _; omega

/-! ### plain facts -/
theorem fresh_rd_in (n : Nat) (h : n < 512) : Dk.new.rd n = (zs 64, 0) := by
  unfold Dk.rd
  rw [if_neg (by simp [Dk.new]), if_neg (by omega)]
  rfl
theorem rd_out (D : Dk) (n : Int) (h : n < 0 ∨ 512 ≤ n) (ho : D.off = false) : D.rd n = (ByteArray.empty, 1) := by
  unfold Dk.rd
  rw [if_neg (by simp [ho]), if_pos h]
theorem fresh_wr_in (m : Nat) (h : m < 512) (s : ByteArray) (hs : s.size = 64) : Dk.new.wr m s = (0, freshD m s) := by
  unfold Dk.wr
  rw [if_neg (by simp [Dk.new]), if_neg (by rw [hs]; omega), if_neg (by simp [Dk.new])]
  have e : max ((-1 : Int) - 1) (-1) = -1 := by decide
  simp only [Dk.new, Dk.tick, freshD, e]
  rfl
theorem fresh_wr_out (m : Int) (h : m < 0 ∨ 512 ≤ m) (s : ByteArray) : Dk.new.wr m s = (1, Dk.new) := by
  unfold Dk.wr
  rw [if_neg (by simp [Dk.new]), if_pos (by omega)]
theorem freshD_rd (m n : Nat) (h : n < 512) (s : ByteArray) : (freshD m s).rd n = (if m = n then s else zs 64, 0) := by
  unfold Dk.rd
  rw [if_neg (by simp [freshD, Dk.new]), if_neg (by omega)]
  simp only [freshD, lookW_one, Int.toNat_natCast]
  by_cases e : m = n
  · rw [if_pos e, if_pos e]
  · rw [if_neg e, if_neg e]; rfl

set_option maxHeartbeats 4000000 in
set_option maxRecDepth 100000 in
theorem fresh_walk (n m c : Int) (w : World) : Calls Try.prog 4 #[.int .i64 n, .int .i64 m, .int .u8 c] w (Fine w) := by
  have HA := Lib.hid awake18
  have HN := Lib.hid new_any
  have H0 := Lib.hid block0
  have HB := Lib.hid (fun W => block_any c W)
  have hq1 : ((zs 64).toList == (zs 64).toList) = true := beq_self_eq_true _
  have hq2 : ((zs 64).toList != (zs 64).toList) = false := by simp
  have hq3 : ((blk c.toNat).toList == (blk c.toNat).toList) = true := beq_self_eq_true _
  by_cases hn : 0 ≤ n ∧ n < 512
  · obtain ⟨n, rfl⟩ : ∃ N : Nat, n = N := ⟨n.toNat, by omega⟩
    obtain ⟨n0, n1⟩ := hn
    have P1 := Lib.hid (fresh_rd_in n (by omega))
    by_cases hm : m < 0 ∨ 512 ≤ m
    · have P2 := Lib.hid (fresh_wr_out m hm (blk c.toNat))
      go_enter Try.func4, Try.ntmps4
      go_wp2_with (first | (go_at_call 17; refine (HA.out _).mono ?_; rintro e1 w1 ⟨rfl, hb1⟩) | (go_at_call 18; refine (HN.out _).mono ?_; rintro e2 w2 ⟨d, F, rfl, hd, hmv⟩))
      have h22 := read_any d F Dk.new n w2 hd new_len
      rw [P1.out] at h22
      have H22 := Lib.hid h22
      clear h22
      refine H22.out.mono ?_
      rintro e3 w3 ⟨rfl, rfl⟩
      go_wp2_with fail
      refine (H0.out _).mono ?_
      rintro e9 w9 ⟨rfl, hb9⟩
      go_wp2_with fail
      refine (HB.out _).mono ?_
      rintro e4 w4 ⟨rfl, hb4⟩
      have h19 := write_any d F Dk.new m (blk c.toNat) w4 ((hd.below hb9).below hb4) new_len
      rw [P2.out] at h19
      have H19 := Lib.hid h19
      have hmv4 := ((((Moves.refl w noFoot).below hb1).trans hmv).below hb9).below hb4
      clear h19 hd hmv hb9 hb4 hb1
      go_wp2_with fail
      refine H19.out.mono ?_
      rintro e5 w5 ⟨rfl, F5, hd5, hmv5⟩
      have HO := Lib.hid (open_any d F5 _ w5 hd5)
      have HF := Lib.hid (fine_of (hmv4.trans hmv5))
      clear hd5 hmv5 hmv4 H19
      by_cases m0 : m < 0
      · clear hm
        go_wp2_with (first | (go_at_call 23; refine HO.out.mono ?_; rintro e9 w9 ⟨rfl, rfl⟩))
        go_ret
        exact HF.out
      · have m1 : 511 < m := by omega
        have m2 : decide (m < 0) = false := by simpa using m0
        clear hm
        go_wp2_with (first | (go_at_call 23; refine HO.out.mono ?_; rintro e9 w9 ⟨rfl, rfl⟩))
        go_ret
        exact HF.out
    · obtain ⟨m, rfl⟩ : ∃ M : Nat, m = M := ⟨m.toNat, by omega⟩
      have m1 : m < 512 := by omega
      have P2 := Lib.hid (fresh_wr_in m m1 (blk c.toNat) (blk_size _))
      have p3 := freshD_rd m m m1 (blk c.toNat)
      rw [if_pos rfl] at p3
      have P3 := Lib.hid p3
      clear p3
      have P4 := Lib.hid (freshD_rd m n (by omega) (blk c.toNat))
      clear hm
      go_enter Try.func4, Try.ntmps4
      go_wp2_with (first | (go_at_call 17; refine (HA.out _).mono ?_; rintro e1 w1 ⟨rfl, hb1⟩) | (go_at_call 18; refine (HN.out _).mono ?_; rintro e2 w2 ⟨d, F, rfl, hd, hmv⟩))
      have h22 := read_any d F Dk.new n w2 hd new_len
      rw [P1.out] at h22
      have H22 := Lib.hid h22
      clear h22
      refine H22.out.mono ?_
      rintro e3 w3 ⟨rfl, rfl⟩
      go_wp2_with fail
      refine (H0.out _).mono ?_
      rintro e9 w9 ⟨rfl, hb9⟩
      go_wp2_with fail
      refine (HB.out _).mono ?_
      rintro e4 w4 ⟨rfl, hb4⟩
      have h19 := write_any d F Dk.new m (blk c.toNat) w4 ((hd.below hb9).below hb4) new_len
      rw [P2.out] at h19
      have H19 := Lib.hid h19
      have hmv4 := ((((Moves.refl w noFoot).below hb1).trans hmv).below hb9).below hb4
      clear h19 hd hmv hb9 hb4 hb1
      go_wp2_with fail
      refine H19.out.mono ?_
      rintro e5 w5 ⟨rfl, F5, hd5, hmv5⟩
      have HO := Lib.hid (fun W (hb : Below w5.heap.size w5 W) => open_any d F5 _ W (hd5.below hb))
      have hr1 := read_any d F5 _ m w5 hd5 (freshD_len _ _)
      have hr2 := read_any d F5 _ n w5 hd5 (freshD_len _ _)
      rw [P3.out] at hr1
      have HR1 := Lib.hid hr1
      have HM := Lib.hid (hmv4.trans hmv5)
      clear hr1 hd5 hmv5 hmv4 H19
      by_cases hnm : n = m
      · subst hnm
        have he : ((n : Int) == (n : Int)) = true := beq_self_eq_true _
        have HR2 := Lib.hid hr2
        clear hr2
        go_wp2_with fail
        refine HR1.out.mono ?_
        rintro e6 w6 ⟨rfl, rfl⟩
        go_wp2_with fail
        refine HR1.out.mono ?_
        rintro e7 w7 ⟨rfl, rfl⟩
        go_wp2_with (first | (go_at_call 20; refine (HB.out _).mono ?_; rintro e9 w9 ⟨rfl, hb9⟩) | (go_at_call 23; refine (HO.out _ hb9).mono ?_; rintro e9 w10 ⟨rfl, rfl⟩))
        go_ret
        exact fine_of (HM.out.below hb9)
      · rw [P4.out, if_neg (fun e => hnm e.symm)] at hr2
        have he : ((n : Int) == (m : Int)) = false := by rw [beq_eq_false_iff_ne]; omega
        have HR2 := Lib.hid hr2
        clear hr2 hnm
        go_wp2_with fail
        refine HR1.out.mono ?_
        rintro e6 w6 ⟨rfl, rfl⟩
        go_wp2_with fail
        refine HR2.out.mono ?_
        rintro e7 w7 ⟨rfl, rfl⟩
        go_wp2_with (first | (go_at_call 20; refine (HB.out _).mono ?_; rintro e9 w9 ⟨rfl, hb9⟩) | (go_at_call 23; refine (HO.out _ hb9).mono ?_; rintro e9 w10 ⟨rfl, rfl⟩))
        go_ret
        exact fine_of (HM.out.below hb9)
  · have hno : n < 0 ∨ 512 ≤ n := by omega
    have P1 := Lib.hid (rd_out Dk.new n hno rfl)
    have hs : (ByteArray.empty.toList == ByteArray.empty.toList) = true := beq_self_eq_true _
    have hs2 : (ByteArray.empty.toList != ByteArray.empty.toList) = false := by simp
    have is1 : (decide (0 ≤ n) = false ∧ n < 0) ∨ (0 ≤ n ∧ decide (n < 512) = false) := by
      rcases hno with h | h
      · exact .inl ⟨by simpa using h, h⟩
      · exact .inr ⟨by omega, by simpa using h⟩
    by_cases hm : m < 0 ∨ 512 ≤ m
    · have P2 := Lib.hid (fresh_wr_out m hm (blk c.toNat))
      have ms : (m < 0) ∨ (decide (m < 0) = false ∧ 511 < m) := by
        rcases hm with h | h
        · exact .inl h
        · exact .inr ⟨by simp; omega, by omega⟩
      clear hn hno hm
      rcases is1 with ⟨i1, i2⟩ | ⟨i1, i2⟩ <;> rcases ms with j1 | ⟨j1, j2⟩
      all_goals
        go_enter Try.func4, Try.ntmps4
        go_wp2_with (first | (go_at_call 17; refine (HA.out _).mono ?_; rintro e1 w1 ⟨rfl, hb1⟩) | (go_at_call 18; refine (HN.out _).mono ?_; rintro e2 w2 ⟨d, F, rfl, hd, hmv⟩))
        have h22 := read_any d F Dk.new n w2 hd new_len
        rw [P1.out] at h22
        have H22 := Lib.hid h22
        clear h22
        refine H22.out.mono ?_
        rintro e3 w3 ⟨rfl, rfl⟩
        go_wp2_with fail
        refine (HB.out _).mono ?_
        rintro e4 w4 ⟨rfl, hb4⟩
        have h19 := write_any d F Dk.new m (blk c.toNat) w4 (hd.below hb4) new_len
        rw [P2.out] at h19
        have H19 := Lib.hid h19
        have hmv4 := (((Moves.refl w noFoot).below hb1).trans hmv).below hb4
        clear h19 hd hmv hb4 hb1
        go_wp2_with fail
        refine H19.out.mono ?_
        rintro e5 w5 ⟨rfl, F5, hd5, hmv5⟩
        have HO := Lib.hid (open_any d F5 _ w5 hd5)
        have HF := Lib.hid (fine_of (hmv4.trans hmv5))
        clear hd5 hmv5 hmv4 H19
        go_wp2_with (first | (go_at_call 23; refine HO.out.mono ?_; rintro e9 w9 ⟨rfl, rfl⟩))
        go_ret
        exact HF.out
    · obtain ⟨m, rfl⟩ : ∃ M : Nat, m = M := ⟨m.toNat, by omega⟩
      have m1 : m < 512 := by omega
      have P2 := Lib.hid (fresh_wr_in m m1 (blk c.toNat) (blk_size _))
      have p3 := freshD_rd m m m1 (blk c.toNat)
      rw [if_pos rfl] at p3
      have P3 := Lib.hid p3
      have P4 := Lib.hid (rd_out (freshD m (blk c.toNat)) n hno rfl)
      have he : (n == (m : Int)) = false := by rw [beq_eq_false_iff_ne]; omega
      clear hm p3 hn hno
      rcases is1 with ⟨i1, i2⟩ | ⟨i1, i2⟩
      all_goals
        go_enter Try.func4, Try.ntmps4
        go_wp2_with (first | (go_at_call 17; refine (HA.out _).mono ?_; rintro e1 w1 ⟨rfl, hb1⟩) | (go_at_call 18; refine (HN.out _).mono ?_; rintro e2 w2 ⟨d, F, rfl, hd, hmv⟩))
        have h22 := read_any d F Dk.new n w2 hd new_len
        rw [P1.out] at h22
        have H22 := Lib.hid h22
        clear h22
        refine H22.out.mono ?_
        rintro e3 w3 ⟨rfl, rfl⟩
        go_wp2_with fail
        refine (HB.out _).mono ?_
        rintro e4 w4 ⟨rfl, hb4⟩
        have h19 := write_any d F Dk.new m (blk c.toNat) w4 (hd.below hb4) new_len
        rw [P2.out] at h19
        have H19 := Lib.hid h19
        have hmv4 := (((Moves.refl w noFoot).below hb1).trans hmv).below hb4
        clear h19 hd hmv hb4 hb1
        go_wp2_with fail
        refine H19.out.mono ?_
        rintro e5 w5 ⟨rfl, F5, hd5, hmv5⟩
        have HO := Lib.hid (fun W (hb : Below w5.heap.size w5 W) => open_any d F5 _ W (hd5.below hb))
        have hr1 := read_any d F5 _ m w5 hd5 (freshD_len _ _)
        have hr2 := read_any d F5 _ n w5 hd5 (freshD_len _ _)
        rw [P3.out] at hr1
        rw [P4.out] at hr2
        have HR1 := Lib.hid hr1
        have HR2 := Lib.hid hr2
        have HM := Lib.hid (hmv4.trans hmv5)
        clear hr1 hr2 hd5 hmv5 hmv4 H19
        go_wp2_with fail
        refine HR1.out.mono ?_
        rintro e6 w6 ⟨rfl, rfl⟩
        go_wp2_with fail
        refine HR2.out.mono ?_
        rintro e7 w7 ⟨rfl, rfl⟩
        go_wp2_with (first | (go_at_call 20; refine (HB.out _).mono ?_; rintro e9 w9 ⟨rfl, hb9⟩) | (go_at_call 23; refine (HO.out _ hb9).mono ?_; rintro e9 w10 ⟨rfl, rfl⟩))
        go_ret
        exact fine_of (HM.out.below hb9)
end Go.Proofs.Ytddaiihhhajieaa
