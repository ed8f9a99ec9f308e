/- The walks of the disk's Write, Sync, Read, Restart. -/
import Derived.Test.YtddaiihhhajieaaDiskW1
namespace Go.Proofs.Ytddaiihhhajieaa
open Go.RowKit Go.Maps

theorem Try.info100 : (Try.prog.info? 100).map (fun i => (i.zero, i.size, i.bytes)) = some (some (.agg #[.int .i64 0, .string ByteArray.empty]), 2, 24) := by kernel_rfl

/-- what one of the calls leaves -/
def Left (w : World) (F : Foot) (d : Nat) (D : Dk) (w' : World) : Prop := ∃ F', IsDisk w' d F' D ∧ Moves w w' F F'

theorem left_of {w w' : World} {F : Foot} {d m : Nat} {wv wv' : Value} {D' : Dk} (hF : ∀ k, F k ↔ dfoot d m wv k) (h : DiskAt w' d m wv' D') (hm : Moves w w' (dfoot d m wv) (dfoot d m wv')) : Left w F d D' w' :=
  ⟨dfoot d m wv', ⟨m, wv', h, fun _ => Iff.rfl⟩, hm.more (fun k hk => (hF k).2 hk)⟩
theorem moves_d {w w' : World} {d m : Nat} {wv : Value} (h : Moves w w' (fun k => k = d) (fun k => k = d)) : Moves w w' (dfoot d m wv) (dfoot d m wv) :=
  (h.beside (dfoot d m wv)).more (fun _ hk => hk.elim (fun e => .inl e) id) |>.less (fun _ hk => .inl (.inr hk))
theorem moves_dm {w w' : World} {d m : Nat} {wv : Value} (h : Moves w w' (dm d m) (dm d m)) : Moves w w' (dfoot d m wv) (dfoot d m wv) :=
  (h.beside (dfoot d m wv)).more (fun _ hk => hk.elim (fun e => e.elim .inl (fun e => .inr (.inl e))) id) |>.less (fun _ hk => .inl (.inr hk))

set_option maxHeartbeats 1000000 in
theorem write_any (d : Nat) (F : Foot) (D : Dk) (n : Int) (s : ByteArray) (w : World) (h : IsDisk w d F D) (hlen : D.wait.length < 1099511627776) :
    Calls Try.prog 19 #[.pointer (some ⟨d, 0, none⟩), .int .i64 n, .string s] w fun e w' => e = .returned (.int .i64 (D.wr n s).1) ∧ Left w F d (D.wr n s).2 w' := by
  obtain ⟨m, wv, hd, hF⟩ := h
  have c4 := hd.c_off
  by_cases ho : D.off = true
  · have e : D.wr n s = (21, D) := by unfold Dk.wr; rw [if_pos ho]
    have K : Hid (Left w F d (D.wr n s).2 w) := by rw [e]; exact left_of hF hd (Moves.refl _ _)
    have E : Hid ((D.wr n s).1 = 21) := by rw [e]; rfl
    rw [ho] at c4
    clear hd ho e
    go_enter Try.func19, Try.ntmps19
    go_wp2
    go_ret
    exact ⟨by rw [E.out]; rfl, K.out⟩
  rw [Bool.not_eq_true] at ho
  rw [ho] at c4
  by_cases hb : n < 0 ∨ 512 ≤ n ∨ s.size ≠ 64
  · have e : D.wr n s = (1, D) := by unfold Dk.wr; rw [if_neg (by rw [ho]; simp), if_pos hb]
    have K : Hid (Left w F d (D.wr n s).2 w) := by rw [e]; exact left_of hF hd (Moves.refl _ _)
    have E : Hid ((D.wr n s).1 = 1) := by rw [e]; rfl
    clear hd ho e
    by_cases b0 : n < 0
    · clear hb
      go_enter Try.func19, Try.ntmps19
      go_wp2
      go_ret
      exact ⟨by rw [E.out]; rfl, K.out⟩
    by_cases b1 : 512 ≤ n
    · clear hb
      have d0 : decide (n < 0) = false := by simpa using b0
      go_enter Try.func19, Try.ntmps19
      go_wp2
      go_ret
      exact ⟨by rw [E.out]; rfl, K.out⟩
    · have b2 : ((s.size : Int) != 64) = true := by rw [bne_iff_ne]; omega
      clear hb
      go_enter Try.func19, Try.ntmps19
      go_wp2
      go_ret
      exact ⟨by rw [E.out]; rfl, K.out⟩
  have b0 : ¬ n < 0 := by omega
  have b1 : ¬ 512 ≤ n := by omega
  have b2 : ((s.size : Int) != 64) = false := by rw [bne_eq_false_iff_eq]; omega
  by_cases h0 : D.arm = 0
  · have e : D.wr n s = (21, D.tick) := by unfold Dk.wr; rw [if_neg (by rw [ho]; simp), if_neg hb, if_pos h0]
    have et : D.tick.off = true := by simp [Dk.tick, h0]
    have hg := goes_at d m wv D w hd
    rw [et] at hg
    have K : Hid (∀ w', DiskAt w' d m wv D.tick → Moves w w' (fun k => k = d) (fun k => k = d) → Left w F d (D.wr n s).2 w') := by
      intro w' h1 h2; rw [e]; exact left_of hF h1 (moves_d h2)
    have E : Hid ((D.wr n s).1 = 21) := by rw [e]; rfl
    have HG := Lib.hid hg
    clear hd ho e hb h0 et hg
    go_enter Try.func19, Try.ntmps19
    go_wp2_with (go_at_call 54; refine HG.out.mono ?_; rintro e1 w1 ⟨rfl, h1, h2⟩)
    go_ret
    exact ⟨by rw [E.out]; rfl, K.out _ h1 h2⟩
  · obtain ⟨N, rfl⟩ : ∃ N : Nat, n = N := ⟨n.toNat, by omega⟩
    have e : D.wr N s = (0, { D.tick with wait := D.wait ++ [(N, s)] }) := by unfold Dk.wr; rw [if_neg (by rw [ho]; simp), if_neg hb, if_neg h0]; rfl
    have et : D.tick.off = false := by simp [Dk.tick, h0, ho]
    have hg := goes_at d m wv D w hd
    rw [et] at hg
    have K : Hid (∀ w1, DiskAt w1 d m wv D.tick → Moves w w1 (fun k => k = d) (fun k => k = d) → ∀ o w3, (w1.alloc o).grownBy w3 wv.ownBlock →
        w3.cell? ⟨d, 513, none⟩ = some wv ∧ w3.frozen? ⟨d, 513, none⟩ = false ∧
        ∀ v', w3.ownsRow 0 100 2 v' (D.wait.length + 1) (putsV D.wait ++ [.int .i64 N, .string s]) → (v'.ownBlock = wv.ownBlock ∨ v'.ownBlock = some (w1.alloc o).heap.size) → Left w F d (D.wr N s).2 (w3.setCell ⟨d, 513, none⟩ v')) := by
      intro w1 h1 h2 o w3 hg3
      obtain ⟨a1, a2, a3⟩ := (h1.alloc o).appended rfl hg3
      refine ⟨a1, a2, fun v' ho3 hl3 => ?_⟩
      rw [e]
      have hl : (D.wait ++ [(N, s)]).length = D.wait.length + 1 := by simp
      have h4 := a3 v' (D.wait ++ [(N, s)]) (by rw [hl, putsV_append]; exact ho3) (by
        intro p hp
        rcases List.mem_append.1 hp with hp | hp
        · exact hd.fine.2.2 p hp
        · obtain rfl : p = (N, s) := by simpa using hp
          exact (by omega))
      refine left_of hF h4 ?_
      have hm1 := ((moves_d (m := m) (wv := wv) h2).alloc o).grown hg3 (fun k hk => .inl (.inr (.inr hk)))
      refine (hm1.setCell (p := ⟨d, 513, none⟩) (.inl (.inl rfl)) v').less ?_
      rintro k (rfl | rfl | hk)
      · exact .inl (.inl rfl)
      · exact .inl (.inr (.inl rfl))
      · rcases hl3 with hl3 | hl3
        · exact .inl (.inr (.inr (hl3 ▸ hk)))
        · right
          rw [hl3] at hk
          injection hk with hk
          have := h2.size
          simp at hk
          omega
    have E : Hid ((D.wr N s).1 = 0) := by rw [e]; rfl
    have HG := Lib.hid hg
    have HL : Hid (D.wait.length + 1 ≤ maxLen ∧ (D.wait.length + 1) * 24 ≤ 140737488355328) := by
      unfold maxLen; exact ⟨by omega, by omega⟩
    obtain ⟨i0, hi, hz0, hz1, hz2⟩ := info_parts Try.info100
    clear hd ho e hb h0 et hg hlen
    go_enter Try.func19, Try.ntmps19
    go_wp2_with (first | (go_at_call 54; refine HG.out.mono ?_; rintro e1 w1 ⟨rfl, h1, h2⟩; have c5 := h1.c_wait; have f5 := h1.fz 513) | (at_builtin; refine wpList_append_own_at _ rfl (.tmp 31) (.tmp 35) 95 rfl 0 100 i0 _ 2 24 Try.underlying95 hi hz0 hz1 hz2 rfl (by decide) wv _ _ rfl (h1.own.alloc _) ⟨w1.heap.size, 0, none⟩ 1 1 [.int .i64 N, .string s] rfl rfl ?c1 ?c2 HL.out.1 HL.out.2 ?c5 ?_))
    case c1 => exact cell_two_new _ _ _ _
    case c2 => intro u hu; simp at hu; rcases hu with rfl | rfl <;> rfl
    case c5 => exact Nat.zero_le _
    intro v' w3 ho3 hg3 _ hl3
    obtain ⟨a1, a2, a3⟩ := K.out w1 h1 h2 _ w3 hg3
    have a4 := Lib.hid (a3 v' ho3 (by simpa using hl3))
    obtain ⟨A, c, hv, _⟩ := own_form ho3
    clear a3 ho3 hg3 hl3 h1 h2 c5 f5 c4 b0 b1 b2
    subst hv
    go_wp2
    go_ret
    exact ⟨by rw [E.out]; rfl, a4.out⟩

theorem wait_cells {w : World} {d m : Nat} {wv : Value} {D : Dk} (h : DiskAt w d m wv D) (k : Nat) (hk : k < D.wait.length) :
    ∃ g c, wv = .slice (some ⟨g, 0, none⟩) D.wait.length c ∧ D.wait.length ≤ c ∧ w.cell? ⟨g, k * 2, none⟩ = some (.int .i64 ((D.wait[k]'hk).1 : Int)) ∧ w.cell? ⟨g, k * 2 + 1, none⟩ = some (.string (D.wait[k]'hk).2) := by
  obtain ⟨A, c, rfl, hc⟩ := own_form h.own
  obtain ⟨g, rfl, h1, h2⟩ := own_cell h.own (by omega)
  obtain ⟨p1, p2⟩ := putsV_at D.wait k hk
  exact ⟨g, c, rfl, hc, (h1 _ (by omega)).trans p1, (h1 _ (by omega)).trans p2⟩

set_option maxHeartbeats 1000000 in
theorem sync_any (d : Nat) (F : Foot) (D : Dk) (w : World) (h : IsDisk w d F D) (hlen : D.wait.length < 1099511627776) :
    Calls Try.prog 24 #[.pointer (some ⟨d, 0, none⟩)] w fun e w' => e = .returned (.int .i64 D.sync.1) ∧ Left w F d D.sync.2 w' := by
  obtain ⟨m, wv, hd, hF⟩ := h
  have c4 := hd.c_off
  by_cases ho : D.off = true
  · have e : D.sync = (21, D) := by unfold Dk.sync; rw [if_pos ho]
    have K : Hid (Left w F d D.sync.2 w) := by rw [e]; exact left_of hF hd (Moves.refl _ _)
    have E : Hid (D.sync.1 = 21) := by rw [e]; rfl
    rw [ho] at c4
    clear hd ho e hlen
    go_enter Try.func24, Try.ntmps24
    go_wp2
    go_ret
    exact ⟨by rw [E.out]; rfl, K.out⟩
  rw [Bool.not_eq_true] at ho
  rw [ho] at c4
  by_cases h0 : D.arm = 0
  · have e : D.sync = (21, D.tick) := by unfold Dk.sync; rw [if_neg (by rw [ho]; simp), if_pos h0]
    have et : D.tick.off = true := by simp [Dk.tick, h0]
    have hg := goes_at d m wv D w hd
    rw [et] at hg
    have K : Hid (∀ w', DiskAt w' d m wv D.tick → Moves w w' (fun k => k = d) (fun k => k = d) → Left w F d D.sync.2 w') := by
      intro w' h1 h2; rw [e]; exact left_of hF h1 (moves_d h2)
    have E : Hid (D.sync.1 = 21) := by rw [e]; rfl
    have HG := Lib.hid hg
    clear hd ho e h0 et hg hlen
    go_enter Try.func24, Try.ntmps24
    go_wp2_with (go_at_call 54; refine HG.out.mono ?_; rintro e1 w1 ⟨rfl, h1, h2⟩)
    go_ret
    exact ⟨by rw [E.out]; rfl, K.out _ h1 h2⟩
  · have e : D.sync = (0, { D.tick.dones D.wait with wait := [] }) := by unfold Dk.sync; rw [if_neg (by rw [ho]; simp), if_neg h0]
    have et : D.tick.off = false := by simp [Dk.tick, h0, ho]
    have hg := goes_at d m wv D w hd
    rw [et] at hg
    have K : Hid (∀ w1, DiskAt w1 d m wv (D.tick.dones D.wait) → Moves w w1 (dm d m) (dm d m) → Left w F d D.sync.2 (w1.setCell ⟨d, 513, none⟩ (.slice none 0 0))) := by
      intro w1 h1 h2
      rw [e]
      refine left_of hF (h1.set_wait (.slice none 0 0) [] ⟨rfl, .inl ⟨rfl, rfl⟩⟩ (by simp)) ?_
      refine ((moves_dm (wv := wv) h2).setCell (p := ⟨d, 513, none⟩) (.inl (.inl rfl)) _).less ?_
      rintro k (rfl | rfl | hk)
      · exact .inl (.inl rfl)
      · exact .inl (.inr (.inl rfl))
      · simp [Value.ownBlock] at hk
    have E : Hid (D.sync.1 = 0) := by rw [e]; rfl
    have HG := Lib.hid hg
    have hlw : ∀ k, (D.tick.dones (D.wait.take k)).wait = D.wait := fun k => (dones_wait _ _).1
    have HW := Lib.hid hlw
    have hfine := hd.fine.2.2
    have HFi := Lib.hid hfine
    clear hfine
    clear hlw
    obtain ⟨N, hN⟩ : ∃ N, N = D.wait.length := ⟨_, rfl⟩
    have hN' := Lib.hid hN
    obtain ⟨A, c, rfl, hc⟩ := own_form hd.own
    rw [← hN] at HG K hc
    have hNb : N ≤ 1099511627776 := by omega
    clear hd ho e h0 et hg hlen hN
    go_enter Try.func24, Try.ntmps24
    go_wp2_with (go_at_call 54; refine HG.out.mono ?_; rintro e1 w1 ⟨rfl, h1, h2⟩; have c5 := h1.c_wait; have f5 := h1.fz 513)
    go_loopw [18] (fun i wr => ∃ k : Nat, k ≤ N ∧ i = .int .i64 k ∧ DiskAt wr d m (.slice A N c) (D.tick.dones (D.wait.take k)) ∧ Moves w wr (dm d m) (dm d m)) (fun i _ => N - (intOf i).toNat)
    case atStart => exact ⟨0, Nat.zero_le _, rfl, h1, h2.beside (fun k => k = m)⟩
    case round =>
      obtain ⟨k, hk, rfl, h3, h4⟩ := hrel
      clear h1 h2 c5 f5 c4 HG hF
      have c6 := h3.c_wait
      have f6 := h3.fz 513
      by_cases hlt : k < N
      · have hkw : k < D.wait.length := by rw [← hN'.out]; exact hlt
        have hw := HW.out k
        obtain ⟨g, c', hv, hcc, p1, p2⟩ := wait_cells h3 k (by rw [hw]; exact hkw)
        obtain ⟨rfl, -, rfl⟩ := Value.slice.inj hv
        clear hv
        simp only [hw] at p1 p2
        obtain ⟨p, hp⟩ : ∃ p, p = D.wait[k] := ⟨_, rfl⟩
        have hp512 := HFi.out D.wait[k] (List.getElem_mem _)
        rw [← hp] at p1 p2 hp512
        obtain ⟨n, s⟩ := p
        have HP := Lib.hid hp
        have hdn := fun W => done_at d m (.slice (some ⟨g, 0, none⟩) N c) (D.tick.dones (D.wait.take k)) n s hp512 W
        have HDN := Lib.hid hdn
        clear hp hw hdn
        go_wp2_with (go_at_call 55; refine (HDN.out _ (h3.alloc _)).mono ?_; rintro e1 w2 ⟨rfl, h5, h6⟩)
        go_roundw
        case rel =>
          refine ⟨k + 1, by omega, by go_num, ?_, (h4.alloc _).trans h6⟩
          rw [List.take_succ_eq_append_getElem hkw, ← HP.out]
          unfold Dk.dones at h5 ⊢
          rw [List.foldl_append]
          exact h5
        case measure => simp [intOf]; omega
      · obtain rfl : k = N := by omega
        have h7 : DiskAt wr d m (.slice A k c) (D.tick.dones D.wait) := by
          have e : D.wait.take k = D.wait := List.take_of_length_le (by rw [← hN'.out]; exact Nat.le_refl _)
          rw [e] at h3
          exact h3
        have KL := Lib.hid (K.out wr h7 h4)
        clear h3 h4 h7 K
        go_wp2
        go_ret
        exact ⟨by rw [E.out]; rfl, KL.out⟩
end Go.Proofs.Ytddaiihhhajieaa
