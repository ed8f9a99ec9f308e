/- The walk of DiskPlays. -/
import Derived.Test.YtddaiihhhajieaaRefDoes
import Derived.BigQuiet
import Derived.Deep.QuietTactic
namespace Go.Proofs.Ytddaiihhhajieaa
open Go.RowKit Go.Maps

theorem IsDisk.fine {w : World} {d : Nat} {F : Foot} {D : Dk} (h : IsDisk w d F D) : D.Fine := by
  obtain ⟨m, wv, hd, _⟩ := h
  exact hd.fine
theorem Pair.ref_cells {w : World} {d r : Nat} {F G : Foot} {D1 D2 : Dk} {L : Puts} (h : Pair w d r F G D1 D2 L) : w.cell? ⟨r, 3, none⟩ = some (.bool D2.off) ∧ ∃ A c, w.cell? ⟨r, 1, none⟩ = some (.slice A D2.wait.length c) := by
  obtain ⟨lv, wv, h1, _⟩ := h.ref
  obtain ⟨A, c, rfl, _⟩ := own_form h1.wait
  exact ⟨h1.c3, A, c, h1.c1⟩
theorem wr_len (D : Dk) (n : Int) (s : ByteArray) : (D.wr n s).2.wait.length ≤ D.wait.length + 1 ∧ (D.wr n s).2.turns = D.turns := by
  unfold Dk.wr
  split
  · exact ⟨Nat.le_succ _, rfl⟩
  split
  · exact ⟨Nat.le_succ _, rfl⟩
  split
  · exact ⟨by show D.wait.length ≤ _; omega, rfl⟩
  · exact ⟨by simp, rfl⟩
theorem sync_len (D : Dk) (L : Puts) : (syncL D L).length + D.sync.2.wait.length ≤ L.length + D.wait.length ∧ D.sync.2.turns = D.turns := by
  unfold syncL Dk.sync
  split
  · exact ⟨by simp, rfl⟩
  split
  · exact ⟨by simp [Dk.tick], rfl⟩
  · refine ⟨by simp, ?_⟩
    show (D.tick.dones D.wait).turns = _
    rw [dones_turns]; rfl
theorem restart_len (D : Dk) (L : Puts) (n : Int) (t : Bool) : (restL D L n t).length + (D.restart n t).wait.length ≤ L.length + D.wait.length + 1 ∧ (D.restart n t).turns = D.turns + 1 := by
  refine ⟨?_, rfl⟩
  show (restL D L n t).length + 0 ≤ _
  unfold restL tornPut
  have hk : keepN n D.wait.length ≤ D.wait.length := Nat.min_le_right _ _
  have h1 : (if t = true then (D.wait[keepN n D.wait.length]?).toList.map (fun p => (p.1, ByteArray.empty)) else []).length ≤ 1 := by
    split
    · rw [List.length_map]; cases D.wait[keepN n D.wait.length]? <;> simp
    · simp
  rw [List.length_append, List.length_append, List.length_take]
  omega
theorem do_len (x : Op18) (D : Dk) (L : Puts) : (doL x D L).length + (doD x D).wait.length ≤ L.length + D.wait.length + 1 ∧ (doD x D).turns ≤ D.turns + 1 := by
  unfold doL doD
  by_cases h : x.do_ = 0 ∨ x.do_ = 1 ∨ x.do_ = 2 ∨ x.do_ = 3
  · have := wr_len D x.n x.s
    rw [if_pos h, if_neg (by omega), if_neg (by omega)]
    exact ⟨by omega, by omega⟩
  rw [if_neg h]
  by_cases h5 : x.do_ = 5
  · have := sync_len D L
    rw [if_pos h5, if_pos h5]
    exact ⟨by omega, by omega⟩
  rw [if_neg h5, if_neg h5]
  by_cases h6 : x.do_ = 6
  · rw [if_pos h6, if_neg (by omega)]
    exact ⟨by show _ + D.wait.length ≤ _; omega, by show D.turns ≤ _; omega⟩
  rw [if_neg h6]
  by_cases h7 : x.do_ = 7
  · have := restart_len D L x.n x.torn
    rw [if_pos h7, if_pos h7]
    exact ⟨by omega, by omega⟩
  · rw [if_neg h7, if_neg h7]
    exact ⟨by omega, by omega⟩
theorem agree_do {D : Dk} {L : Puts} (h : Agree D L) (x : Op18) : Agree (doD x D) (doL x D L) := by
  unfold doL doD
  by_cases h0 : x.do_ = 0 ∨ x.do_ = 1 ∨ x.do_ = 2 ∨ x.do_ = 3
  · rw [if_pos h0, if_neg (by omega), if_neg (by omega)]; exact agree_wr h _ _
  rw [if_neg h0]
  by_cases h5 : x.do_ = 5
  · rw [if_pos h5, if_pos h5]; exact agree_sync h
  rw [if_neg h5, if_neg h5]
  by_cases h6 : x.do_ = 6
  · rw [if_pos h6, if_neg (by omega)]; exact agree_armed h _
  rw [if_neg h6]
  by_cases h7 : x.do_ = 7
  · rw [if_pos h7, if_pos h7]; exact agree_restart h _ _
  · rw [if_neg h7, if_neg h7]; exact h

set_option maxHeartbeats 4000000 in
set_option maxRecDepth 100000 in
theorem plays_walk {w : World} (v1 : Value) (l1 : List Op18) (hv1 : IsOps18 w v1 l1) : Calls Try.prog 7 #[v1] w (Fine w) := by
  obtain ⟨A1, c1, rfl, hc1, hm1, hx1⟩ := hv1
  have HA := Lib.hid awake18
  have HN := Lib.hid new_any
  have HR := Lib.hid rnew_any
  have HX1 := Lib.hid hx1
  obtain ⟨N1, hN1⟩ : ∃ N, N = l1.length := ⟨_, rfl⟩
  rw [← hN1] at hc1 ⊢
  have HN1 := Lib.hid hN1
  clear hx1 hN1
  have g1 : N1 ≤ 9223372036854775807 := by omega
  go_enter Try.func7, Try.ntmps7
  go_wp2_with (first | (go_at_call 17; refine (HA.out _).mono ?_; rintro e1 w1 ⟨rfl, hb1⟩) | (go_at_call 18; refine (HN.out _).mono ?_; rintro e2 w2 ⟨d, F, rfl, hd, hm⟩) | (go_at_call 27; refine (HR.out _).mono ?_; rintro e3 w3 ⟨r, G, rfl, hr, hm3⟩))
  have hp : Pair w3 d r F G Dk.new Dk.new [] := ⟨hd.stay (hm3.stay (fun _ hk => hk.elim) hd.lt), hr, fun k h1 h2 => by have := hd.lt k h1; rcases hm3.fresh k h2 with h | h; exact h; omega⟩
  have hm0 : Moves w w3 noFoot (Un F G) := ((Moves.refl w noFoot).below hb1).trans (hm.trans ((hm3.beside F).more (fun k hk => hk.elim (fun h => h.elim) id) |>.less (fun k hk => .inl hk.symm)))
  clear hb1 hm hm3 HA HN HR hd hr
  go_loopw [6] (fun i wr => ∃ k : Nat, k ≤ N1 ∧ k ≤ 150 ∧ i = .int .i64 k ∧ ∃ F G D L, Pair wr d r F G D D L ∧ Agree D L ∧ L.length + D.wait.length ≤ k ∧ D.turns ≤ k ∧ Moves w wr noFoot (Un F G)) (fun i _ => N1 - (intOf i).toNat)
  case atStart => exact ⟨0, Nat.zero_le _, by omega, rfl, F, G, _, _, hp, agree_new, Nat.le_refl _, Nat.le_refl _, hm0⟩
  case round =>
    obtain ⟨k, hk, hk150, rfl, F1, G1, D1, L1, hp1, ha1, hl1, ht1, hmv⟩ := hrel
    clear hp hm0
    have hbel := hmv.toBelow (Nat.le_refl _) (fun _ hk => hk.elim)
    by_cases hgo : k < N1 ∧ k < 150
    · obtain ⟨q1, q2⟩ := hgo
      obtain ⟨b, off, rfl, hx⟩ := HX1.out k (by rw [← HN1.out]; exact q1)
      have hx' := EOp18.stays _ _ _ _ _ hx hbel
      generalize l1[k]'(by rw [← HN1.out]; exact q1) = x at *
      have x0 := hx'.c0
      have x1 := hx'.c1
      have x2 := hx'.c2
      have x3 := hx'.c3
      have r0 := hx'.r0
      have r1 := hx'.r1
      have q2' : (k : Int) < 150 := by omega
      by_cases h200 : (200 : Int) < x.s.size
      · have HF := Lib.hid (fine_of hmv)
        clear hp1 ha1 hmv hbel hx hx'
        go_wp2_with fail
        go_ret
        exact HF.out
      · have h28 := does_any d r F1 G1 D1 L1 x r1 wr hp1 ha1 hp1.disk.fine (by omega) (by omega)
        have hln := do_len x D1 L1
        have hag := agree_do ha1 x
        generalize doD x D1 = D2 at h28 hln hag
        generalize doL x D1 L1 = L2 at h28 hln hag
        have H28 := Lib.hid h28
        have HA := Lib.hid hag
        have HL := Lib.hid (show L2.length + D2.wait.length ≤ k + 1 ∧ D2.turns ≤ k + 1 by omega)
        have HM := Lib.hid hmv
        clear h28 hln hag hp1 ha1 hmv hbel hx hx' hl1 ht1
        go_wp2_with (go_at_call 28; refine H28.out.mono ?_; rintro e3 w4 ⟨rfl, hl⟩)
        obtain ⟨U', ⟨F2, G2, p2, hU⟩, m2⟩ := hl
        obtain ⟨s3, A, c, s1⟩ := p2.ref_cells
        have hq1 : (D2.off != D2.off) = false := by simp
        have hq2 : ((D2.wait.length : Int) != (D2.wait.length : Int)) = false := by simp
        have H25 := Lib.hid (fun n => (off_any d F2 D2 (w4.drewN n) (p2.disk.stay fun _ _ => rfl)).mono fun e w' (hh : _ ∧ _) => (⟨hh.1, hh.2.symm⟩ : e = .returned (.bool D2.off) ∧ w' = w4.drewN n))
        have H23 := Lib.hid (fun n => (open_any d F2 D2 (w4.drewN n) (p2.disk.stay fun _ _ => rfl)).mono fun e w' (hh : _ ∧ _) => (⟨hh.1, hh.2.symm⟩ : e = .returned (.int .i64 (D2.wait.length : Int)) ∧ w' = w4.drewN n))
        have K : Hid (∀ n, Pair (w4.drewN n) d r F2 G2 D2 D2 L2 ∧ Moves w (w4.drewN n) noFoot (Un F2 G2)) := fun n => ⟨⟨p2.disk.stay fun _ _ => rfl, p2.ref.stay fun _ _ => rfl, p2.apart⟩, ((HM.out.trans m2).less (fun k hk => .inl ((hU k).2 hk))).drewN n⟩
        clear p2 m2 hU H28 HM
        go_wp2_with fail
        go_quiet (first | (go_at_call 25; exact Calls.quiet_of_same (H25.out _)) | (go_at_call 23; exact Calls.quiet_of_same (H23.out _)))
        go_wp2_with fail
        go_roundw
        case rel => exact ⟨k + 1, by omega, by omega, by go_num, F2, G2, _, _, (K.out _).1, HA.out, HL.out.1, HL.out.2, (K.out _).2⟩
        case measure => simp [intOf]; omega
    · have hex : ¬ (k < N1) ∨ (k < N1 ∧ ¬ ((k : Int) < 150)) := by omega
      have h21 := fun W (F G : Foot) D2 L2 (hp : Pair W d r F G D1 D2 L2) => (restart_any d F D1 1 false W hp.disk (by omega) (by omega)).mono fun e w' (hh : _ ∧ _) => (⟨hh.1, hp.disk_left hh.2⟩ : e = .returned (.tuple #[]) ∧ ∃ F', Pair w' d r F' G (D1.restart 1 false) D2 L2 ∧ Moves W w' (Un F G) (Un F' G))
      have h29 := fun W (F G : Foot) D0 (hp : Pair W d r F G D0 D1 L1) => (rrestart_any r G D1 L1 1 false W hp.ref (by omega)).mono fun e w' (hh : _ ∧ _) => (⟨hh.1, hp.ref_left hh.2⟩ : e = .returned (.tuple #[]) ∧ ∃ G', Pair w' d r F G' D0 (D1.restart 1 false) (restL D1 L1 1 false) ∧ Moves W w' (Un F G) (Un F G'))
      have hag := agree_restart ha1 1 false
      have hln := restart_len D1 L1 1 false
      generalize D1.restart 1 false = D2 at h21 h29 hag hln
      generalize restL D1 L1 1 false = L2 at h29 hag hln
      have H21 := Lib.hid h21
      have H29 := Lib.hid h29
      have HA := Lib.hid hag
      have HL := Lib.hid (show L2.length + D2.wait.length < 1000 by omega)
      have HM := Lib.hid hmv
      have HP := Lib.hid hp1
      clear h21 h29 hag hln hp1 ha1 hmv hbel hl1 ht1 hgo HX1
      rcases hex with q1 | ⟨q1, q2⟩
      all_goals
        go_wp2_with (first | (go_at_call 21; refine (H21.out _ _ _ _ _ HP.out).mono ?_; rintro e3 w4 ⟨rfl, F2, p2, m2⟩) | (go_at_call 29; refine (H29.out _ _ _ _ p2).mono ?_; rintro e4 w5 ⟨rfl, G3, p3, m3⟩))
        have hm3 := HM.out.trans (m2.trans m3)
        clear m2 m3 p2 H21 H29
        go_loopw [8] (fun i wr => ∃ n : Nat, n ≤ 10 ∧ i = .int .i64 n ∧ Pair wr d r F2 G3 D2 D2 L2 ∧ Moves w wr noFoot (Un F2 G3)) (fun i _ => 10 - (intOf i).toNat)
        case atStart => exact ⟨0, by omega, rfl, p3, hm3⟩
        case round =>
          obtain ⟨n, hn, rfl, hp4, hm4⟩ := hrel
          clear p3 hm3
          by_cases hlt : n < 10
          · have h22 := read_any d F2 D2 n wr hp4.disk (by have := HL.out; omega)
            have h30 := rread_any r G3 D2 L2 n wr hp4.ref (by have := HL.out; omega)
            rw [agree_rd HA.out] at h30
            obtain ⟨a, hA⟩ : ∃ a, a = D2.rd n := ⟨_, rfl⟩
            rw [← hA] at h22 h30
            obtain ⟨t, e⟩ := a
            have hq : (t.toList == t.toList) = true := beq_self_eq_true _
            have hq2 : (t.toList != t.toList) = false := by simp
            have p1 : (n : Int) < 10 := by omega
            have H22 := Lib.hid h22
            have H30 := Lib.hid h30
            have HQ := Lib.hid (⟨hp4, hm4⟩ : Pair wr d r F2 G3 D2 D2 L2 ∧ Moves w wr noFoot (Un F2 G3))
            clear hA h22 h30 hp4 hm4
            go_wp2_with (first | (go_at_call 22; refine H22.out.mono ?_; rintro e3 w6 ⟨rfl, rfl⟩) | (go_at_call 30; refine H30.out.mono ?_; rintro e4 w7 ⟨rfl, hb7⟩))
            go_roundw
            case rel => exact ⟨n + 1, by omega, by go_num, HQ.out.1.below hb7, HQ.out.2.below hb7⟩
            case measure => simp [intOf]; omega
          · obtain rfl : n = 10 := by omega
            clear hlt hn
            have e12 : ((10 : Nat) : Int) = 10 := rfl
            rw [e12]
            have h22 := read_any d F2 D2 511 wr hp4.disk (by have := HL.out; omega)
            have h30 := rread_any r G3 D2 L2 511 wr hp4.ref (by have := HL.out; omega)
            rw [agree_rd HA.out] at h30
            obtain ⟨a, hA⟩ : ∃ a, a = D2.rd 511 := ⟨_, rfl⟩
            rw [← hA] at h22 h30
            obtain ⟨t, e⟩ := a
            have hq : (t.toList == t.toList) = true := beq_self_eq_true _
            have H22 := Lib.hid h22
            have H30 := Lib.hid h30
            have HF := Lib.hid hm4
            clear hA h22 h30 hp4 hm4
            go_wp2_with (first | (go_at_call 22; refine H22.out.mono ?_; rintro e3 w6 ⟨rfl, rfl⟩) | (go_at_call 30; refine H30.out.mono ?_; rintro e4 w7 ⟨rfl, hb7⟩))
            go_ret
            exact fine_of (HF.out.below hb7)
end Go.Proofs.Ytddaiihhhajieaa
