/- The walks of the document's disk. -/
import Derived.Test.YtddaiihhhajieaaRefMem
import Derived.Deep.RegionLaw
namespace Go.Proofs.Ytddaiihhhajieaa
open Go.RowKit Go.Maps

theorem Try.info103 : (Try.prog.info? 103).map (fun i => (i.zero, i.size, i.bytes)) = some (some (.agg #[.int .i64 0, .string ByteArray.empty]), 2, 24) := by kernel_rfl

theorem rnew_any (w : World) : Calls Try.prog 27 #[] w fun e w' => ∃ r G, e = .returned (.pointer (some ⟨r, 0, none⟩)) ∧ IsRef w' r G Dk.new [] ∧ Moves w w' (fun _ => False) G := by
  go_enter Try.func27, Try.ntmps27
  go_wp2
  go_ret
  refine ⟨w.heap.size, rfoot w.heap.size (.slice none 0 0) (.slice none 0 0), rfl, ⟨.slice none 0 0, .slice none 0 0, ⟨Blk.new w 48 _, ⟨rfl, .inl ⟨rfl, rfl⟩⟩, ⟨rfl, .inl ⟨rfl, rfl⟩⟩, fun k hk => by simp [Value.ownBlock] at hk⟩, fun _ => Iff.rfl⟩, ?_⟩
  refine ((Moves.refl w _).alloc _).less ?_
  rintro k (rfl | hk | hk)
  · exact .inr (Nat.le_refl _)
  · simp [Value.ownBlock] at hk
  · simp [Value.ownBlock] at hk

theorem tick_idle {D : Dk} (h : D.arm = -1) : D.tick = D := by
  obtain ⟨last, torn, wait, arm, off, turns⟩ := D
  obtain rfl : arm = -1 := h
  simp [Dk.tick]
  decide

set_option maxHeartbeats 400000 in
theorem rgoes_at (r : Nat) (lv wv : Value) (D : Dk) (L : Puts) (hf : -1 ≤ D.arm ∧ D.arm ≤ 9223372036854775807) (w : World) (h : RefAt w r lv wv D L) :
    Calls Try.prog 82 #[.pointer (some ⟨r, 0, none⟩)] w fun e w' => e = .returned (.bool D.tick.off) ∧ RefAt w' r lv wv D.tick L ∧ Moves w w' (fun k => k = r) (fun k => k = r) := by
  obtain ⟨h1, h2⟩ := hf
  have c2 := h.c2
  have c3 := h.c3
  have f2 := h.fz 2
  have f3 := h.fz 3
  have key : ∀ x : Int, x = max (D.arm - 1) (-1) → RefAt (w.setCell ⟨r, 2, none⟩ (.int .i64 x)) r lv wv { D with arm := x } L ∧ RefAt ((w.setCell ⟨r, 3, none⟩ (.bool true)).setCell ⟨r, 2, none⟩ (.int .i64 x)) r lv wv { D with off := true, arm := x } L :=
    fun x _ => ⟨h.set_arm x, (h.set_off true).set_arm x⟩
  have kM : Moves w w (fun k => k = r) (fun k => k = r) := Moves.refl w _
  by_cases h0 : D.arm = 0
  · have e : (D.arm == 0) = true := by rw [beq_iff_eq]; exact h0
    have et : D.tick = { D with off := true, arm := -1 } := by unfold Dk.tick; rw [h0]; simp
    have g2 : ¬ (D.arm < 0) := by omega
    have K : Hid (RefAt ((w.setCell ⟨r, 3, none⟩ (.bool true)).setCell ⟨r, 2, none⟩ (.int .i64 (-1))) r lv wv D.tick L ∧ Moves w ((w.setCell ⟨r, 3, none⟩ (.bool true)).setCell ⟨r, 2, none⟩ (.int .i64 (-1))) (fun k => k = r) (fun k => k = r)) := by
      rw [et]; exact ⟨(key (-1) (by omega)).2, (kM.cell 3 _).cell 2 _⟩
    have EO : Hid (D.tick.off = true) := by rw [et]; rfl
    rw [h0] at c2
    clear key h kM et e g2 h0
    go_enter Try.func82, Try.ntmps82
    go_wp2
    go_ret
    exact ⟨by rw [EO.out]; rfl, K.out⟩
  by_cases hp : 0 < D.arm
  · have et : D.tick = { D with arm := D.arm - 1 } := by
      unfold Dk.tick
      have e : (D.arm == 0) = false := by rw [beq_eq_false_iff_ne]; exact h0
      have e2 : max (D.arm - 1) (-1) = D.arm - 1 := by omega
      rw [e, e2, Bool.or_false]
    have K : Hid (RefAt (w.setCell ⟨r, 2, none⟩ (.int .i64 (D.arm - 1))) r lv wv D.tick L ∧ Moves w (w.setCell ⟨r, 2, none⟩ (.int .i64 (D.arm - 1))) (fun k => k = r) (fun k => k = r)) := by
      rw [et]; exact ⟨(key (D.arm - 1) (by omega)).1, kM.cell 2 _⟩
    have EO : Hid (D.tick.off = D.off) := by rw [et]; exact rfl
    have e : (D.arm == 0) = false := by rw [beq_eq_false_iff_ne]; exact h0
    have g2 : (0 : Int) ≤ D.arm := by omega
    clear key h kM et
    go_enter Try.func82, Try.ntmps82
    go_wp2
    go_ret
    exact ⟨by rw [EO.out]; rfl, K.out⟩
  · have ea : D.arm = -1 := by omega
    have et : D.tick = D := tick_idle ea
    have K : Hid (RefAt w r lv wv D.tick L ∧ Moves w w (fun k => k = r) (fun k => k = r)) := by
      rw [et]; exact ⟨h, kM⟩
    have EO : Hid (D.tick.off = D.off) := by rw [et]; exact rfl
    rw [ea] at c2
    clear key h kM et
    go_enter Try.func82, Try.ntmps82
    go_wp2
    go_ret
    exact ⟨by rw [EO.out]; rfl, K.out⟩

set_option maxHeartbeats 1000000 in
theorem rwrite_any (r : Nat) (G : Foot) (D : Dk) (L : Puts) (n : Int) (s : ByteArray) (w : World) (h : IsRef w r G D L) (hf : D.Fine) (hlen : D.wait.length < 1099511627776) :
    Calls Try.prog 56 #[.pointer (some ⟨r, 0, none⟩), .int .i64 n, .string s] w fun e w' => e = .returned (.int .i64 (D.wr n s).1) ∧ LeftR w G r (D.wr n s).2 L w' := by
  obtain ⟨lv, wv, hd, hF⟩ := h
  have c4 := hd.c3
  by_cases ho : D.off = true
  · have e : D.wr n s = (21, D) := by unfold Dk.wr; rw [if_pos ho]
    have K : Hid (LeftR w G r (D.wr n s).2 L w) := by rw [e]; exact leftR_of hF hd (Moves.refl _ _)
    have E : Hid ((D.wr n s).1 = 21) := by rw [e]; rfl
    rw [ho] at c4
    clear hd ho e
    go_enter Try.func56, Try.ntmps56
    go_wp2
    go_ret
    exact ⟨by rw [E.out]; rfl, K.out⟩
  rw [Bool.not_eq_true] at ho
  rw [ho] at c4
  by_cases hb : n < 0 ∨ 512 ≤ n ∨ s.size ≠ 64
  · have e : D.wr n s = (1, D) := by unfold Dk.wr; rw [if_neg (by rw [ho]; simp), if_pos hb]
    have K : Hid (LeftR w G r (D.wr n s).2 L w) := by rw [e]; exact leftR_of hF hd (Moves.refl _ _)
    have E : Hid ((D.wr n s).1 = 1) := by rw [e]; rfl
    clear hd ho e
    by_cases b0 : n < 0
    · clear hb
      go_enter Try.func56, Try.ntmps56
      go_wp2
      go_ret
      exact ⟨by rw [E.out]; rfl, K.out⟩
    by_cases b1 : 512 ≤ n
    · clear hb
      have d0 : decide (n < 0) = false := by simpa using b0
      go_enter Try.func56, Try.ntmps56
      go_wp2
      go_ret
      exact ⟨by rw [E.out]; rfl, K.out⟩
    · have b2 : ((s.size : Int) != 64) = true := by rw [bne_iff_ne]; omega
      clear hb
      go_enter Try.func56, Try.ntmps56
      go_wp2
      go_ret
      exact ⟨by rw [E.out]; rfl, K.out⟩
  have b0 : ¬ n < 0 := by omega
  have b1 : ¬ 512 ≤ n := by omega
  have b2 : ((s.size : Int) != 64) = false := by rw [bne_eq_false_iff_eq]; omega
  by_cases h0 : D.arm = 0
  · have e : D.wr n s = (21, D.tick) := by unfold Dk.wr; rw [if_neg (by rw [ho]; simp), if_neg hb, if_pos h0]
    have et : D.tick.off = true := by simp [Dk.tick, h0]
    have hg := rgoes_at r lv wv D L ⟨hf.1, hf.2.1⟩ w hd
    rw [et] at hg
    have K : Hid (∀ w', RefAt w' r lv wv D.tick L → Moves w w' (fun k => k = r) (fun k => k = r) → LeftR w G r (D.wr n s).2 L w') := by
      intro w' h1 h2; rw [e]; exact leftR_of hF h1 (moves_r h2)
    have E : Hid ((D.wr n s).1 = 21) := by rw [e]; rfl
    have HG := Lib.hid hg
    clear hd ho e hb h0 et hg
    go_enter Try.func56, Try.ntmps56
    go_wp2_with (go_at_call 82; refine HG.out.mono ?_; rintro e1 w1 ⟨rfl, h1, h2⟩)
    go_ret
    exact ⟨by rw [E.out]; rfl, K.out _ h1 h2⟩
  · obtain ⟨N, rfl⟩ : ∃ N : Nat, n = N := ⟨n.toNat, by omega⟩
    have e : D.wr N s = (0, { D.tick with wait := D.wait ++ [(N, s)] }) := by unfold Dk.wr; rw [if_neg (by rw [ho]; simp), if_neg hb, if_neg h0]; rfl
    have et : D.tick.off = false := by simp [Dk.tick, h0, ho]
    have hg := rgoes_at r lv wv D L ⟨hf.1, hf.2.1⟩ w hd
    rw [et] at hg
    have K : Hid (∀ w1, RefAt w1 r lv wv D.tick L → Moves w w1 (fun k => k = r) (fun k => k = r) → ∀ o w3, (w1.alloc o).grownBy w3 wv.ownBlock →
        w3.cell? ⟨r, 1, none⟩ = some wv ∧ w3.frozen? ⟨r, 1, none⟩ = false ∧
        ∀ v', w3.ownsRow 0 103 2 v' (D.wait.length + 1) (putsV D.wait ++ [.int .i64 N, .string s]) → (v'.ownBlock = wv.ownBlock ∨ v'.ownBlock = some (w1.alloc o).heap.size) → LeftR w G r (D.wr N s).2 L (w3.setCell ⟨r, 1, none⟩ v')) := by
      intro w1 h1 h2 o w3 hg3
      have h1' : RefAt (w1.alloc o) r lv wv D.tick L := h1.below ((Below.refl _ _).alloc (Nat.le_refl _) o)
      obtain ⟨a1, a2⟩ := h1'.grown_wait hg3
      refine ⟨(a1.cell 1).trans rfl, a1.frozen 1, fun v' ho3 hl3 => ?_⟩
      rw [e]
      obtain ⟨h4, h5⟩ := h1'.append_wait hg3 (l := [(N, s)]) ho3 hl3
      exact leftR_of hF h4 (((moves_r h2).alloc o).trans h5)
    have E : Hid ((D.wr N s).1 = 0) := by rw [e]; rfl
    have HG := Lib.hid hg
    have HL : Hid (D.wait.length + 1 ≤ maxLen ∧ (D.wait.length + 1) * 24 ≤ 140737488355328) := by
      unfold maxLen; exact ⟨by omega, by omega⟩
    obtain ⟨i0, hi, hz0, hz1, hz2⟩ := info_parts Try.info103
    clear hd ho e hb h0 et hg hlen hf
    go_enter Try.func56, Try.ntmps56
    go_wp2_with (first | (go_at_call 82; refine HG.out.mono ?_; rintro e1 w1 ⟨rfl, h1, h2⟩; have c5 := h1.c1; have f5 := h1.fz 1) | (at_builtin; refine wpList_append_own_at _ rfl (.tmp 28) (.tmp 32) 46 rfl 0 103 i0 _ 2 24 Try.underlying46 hi hz0 hz1 hz2 rfl (by decide) wv _ _ rfl (h1.wait.alloc _) ⟨w1.heap.size, 0, none⟩ 1 1 [.int .i64 N, .string s] rfl rfl ?c1 ?c2 HL.out.1 HL.out.2 ?c5 ?_))
    case c1 => exact cell_two_new _ _ _ _
    case c2 => intro u hu; simp at hu; rcases hu with rfl | rfl <;> rfl
    case c5 => exact Nat.zero_le _
    intro v' w3 ho3 hg3 _ hl3
    obtain ⟨a1, a2, a3⟩ := K.out w1 h1 h2 _ w3 hg3
    have a4 := Lib.hid (a3 v' ho3 (by simpa using hl3))
    obtain ⟨A, c, hv, _⟩ := own_form ho3
    clear a3 ho3 hg3 hl3 h1 h2 c5 f5 c4 b0 b1 b2
    subst hv
    go_wp2
    go_ret
    exact ⟨by rw [E.out]; rfl, a4.out⟩

end Go.Proofs.Ytddaiihhhajieaa
